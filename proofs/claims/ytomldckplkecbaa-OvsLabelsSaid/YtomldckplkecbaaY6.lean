/- Several texts of one claim in one file: PO03 EP OF17. -/
import Derived.Test.YtomldckplkecbaaY5
import Derived.Lib.Overlaps
/- Plain: how many bits a word has, as math/bits counts them; the bytes of a set's key. -/
namespace Go.Proofs.Ytomldckplkecbaa
set_option linter.unusedVariables false
set_option linter.unusedSimpArgs false
def pc : Nat → Nat → Nat
  | 0, _ => 0
  | f + 1, x => x % 2 + pc f (x / 2)
theorem filt_pc : ∀ (n w : Nat), ((List.range n).filter fun i => w.testBit i).length = pc n w
  | 0, w => rfl
  | n + 1, w => by
    have h := filt_pc n (w / 2)
    have e : (((List.range n).map Nat.succ).filter fun i => w.testBit i).length = pc n (w / 2) := by
      rw [List.filter_map, List.length_map, ← h]
      congr 1
      refine List.filter_congr fun x _ => ?_
      simp [Nat.testBit_succ]
    rw [List.range_succ_eq_map]
    show _ = w % 2 + pc n (w / 2)
    by_cases h0 : w.testBit 0 = true
    · rw [List.filter_cons_of_pos h0, List.length_cons, e]
      have : w % 2 = 1 := by simpa [Nat.testBit_zero] using h0
      omega
    · rw [List.filter_cons_of_neg h0, e]
      have : w % 2 ≠ 1 := by simpa [Nat.testBit_zero] using h0
      omega
theorem bitsOf_pc (w : Nat) : (bitsOf w).length = pc 64 w := filt_pc 64 w
theorem pc_8 (m x : Nat) : pc (m + 8) x = pc 8 (x % 256) + pc m (x / 256) := by
  simp only [pc]
  have e : x / 2 / 2 / 2 / 2 / 2 / 2 / 2 / 2 = x / 256 := by omega
  rw [e]
  omega
/-! ### Masks, byte by byte -/
def rep (m : Nat) : Nat → Nat
  | 0 => 0
  | n + 1 => 256 * rep m n + m
theorem mask8 (k a b m M : Nat) (ha : a < 256) (hm : m < 256) (hk : k ≤ 8) (hmk : m < 2 ^ (8 - k)) : (256 * b + a) >>> k &&& (256 * M + m) = 256 * (b >>> k &&& M) + (a >>> k &&& m) := by
  have e8 : (256 : Nat) = 2 ^ 8 := rfl
  have hA : a >>> k &&& m < 2 ^ 8 := Nat.lt_of_le_of_lt Nat.and_le_right hm
  refine Nat.eq_of_testBit_eq fun j => ?_
  rw [e8, Nat.testBit_and, Nat.testBit_shiftRight, Nat.testBit_two_pow_mul_add _ ha, Nat.testBit_two_pow_mul_add _ hm, Nat.testBit_two_pow_mul_add _ hA, Nat.testBit_and, Nat.testBit_and, Nat.testBit_shiftRight, Nat.testBit_shiftRight]
  by_cases h : j < 8
  · rw [if_pos h, if_pos h]
    by_cases h2 : k + j < 8
    · rw [if_pos h2]
    · have : m.testBit j = false := Nat.testBit_lt_two_pow (Nat.lt_of_lt_of_le hmk (Nat.pow_le_pow_right (by omega) (by omega)))
      rw [this]; simp
  · rw [if_neg h, if_neg h, if_neg (by omega)]
    congr 2
    omega
def F1 (m M x : Nat) : Nat := (x >>> m &&& M) + (x &&& M)
theorem F1_byte (k a b m M : Nat) (ha : a < 256) (hm : m < 256) (hk : k ≤ 8) (hmk : m < 2 ^ (8 - k)) : F1 k (256 * M + m) (256 * b + a) = 256 * F1 k M b + F1 k m a := by
  have h0 := mask8 0 a b m M ha hm (by omega) hm
  simp only [Nat.shiftRight_zero] at h0
  unfold F1
  rw [mask8 k a b m M ha hm hk hmk, h0]
  omega
def F3 (M x : Nat) : Nat := (x >>> 4 + x) &&& M
theorem F3_byte (a b M : Nat) (ha : a < 256) (h1 : a % 16 + a / 16 ≤ 15) (h2 : b % 16 + a / 16 ≤ 15) : F3 (256 * M + 15) (256 * b + a) = 256 * F3 M b + (a % 16 + a / 16) := by
  have e : (256 * b + a) >>> 4 + (256 * b + a) = 256 * (b >>> 4 + b) + (16 * (b % 16 + a / 16) + (a % 16 + a / 16)) := by
    simp only [Nat.shiftRight_eq_div_pow]
    omega
  have h0 := mask8 0 (16 * (b % 16 + a / 16) + (a % 16 + a / 16)) (b >>> 4 + b) 15 M (by omega) (by omega) (by omega) (by omega)
  simp only [Nat.shiftRight_zero] at h0
  unfold F3
  rw [e, h0]
  have : (16 * (b % 16 + a / 16) + (a % 16 + a / 16)) &&& 15 = a % 16 + a / 16 := by
    rw [show (15 : Nat) = 2 ^ 4 - 1 from rfl, Nat.and_two_pow_sub_one_eq_mod]
    omega
  rw [this]
def F2 (y : Nat) : Nat := F1 2 51 (F1 1 85 y)
theorem byte_all : ∀ y, y < 256 → F1 1 85 y < 256 ∧ F2 y < 256 ∧ F2 y % 16 ≤ 4 ∧ F2 y / 16 ≤ 4 ∧ F2 y % 16 + F2 y / 16 = pc 8 y := by decide +kernel
def pcs : Nat → Nat → Nat
  | 0, _ => 0
  | n + 1, x => 256 * pcs n (x / 256) + pc 8 (x % 256)
theorem swar : ∀ n x, x < 256 ^ n → F3 (rep 15 n) (F1 2 (rep 51 n) (F1 1 (rep 85 n) x)) = pcs n x ∧ F1 2 (rep 51 n) (F1 1 (rep 85 n) x) % 16 ≤ 4
  | 0, x, h => by simp [F3, F1, rep, pcs]
  | n + 1, x, h => by
    obtain ⟨h1, h2⟩ := swar n (x / 256) (by rw [Nat.pow_succ] at h; omega)
    have hx : x = 256 * (x / 256) + x % 256 := by omega
    have hb := byte_all (x % 256) (Nat.mod_lt _ (by omega))
    have e1 : F1 1 (rep 85 (n + 1)) x = 256 * F1 1 (rep 85 n) (x / 256) + F1 1 85 (x % 256) := by
      conv => lhs; rw [hx]
      exact F1_byte 1 _ _ 85 _ (Nat.mod_lt _ (by omega)) (by omega) (by omega) (by decide)
    have e2 : F1 2 (rep 51 (n + 1)) (F1 1 (rep 85 (n + 1)) x) = 256 * F1 2 (rep 51 n) (F1 1 (rep 85 n) (x / 256)) + F2 (x % 256) := by
      rw [e1]
      exact F1_byte 2 _ _ 51 _ hb.1 (by omega) (by omega) (by decide)
    rw [e2]
    refine ⟨?_, by omega⟩
    have e3 := F3_byte (F2 (x % 256)) (F1 2 (rep 51 n) (F1 1 (rep 85 n) (x / 256))) (rep 15 n) hb.2.1 (by omega) (by omega)
    show F3 (256 * rep 15 n + 15) _ = 256 * pcs n (x / 256) + pc 8 (x % 256)
    rw [e3, h1, hb.2.2.2.2]
theorem pc8_le : ∀ y, y < 256 → pc 8 y ≤ 8 := by decide +kernel
/-- The sums at the end. -/
theorem sh1 {x y z p q : Nat} (e : x = 256 * y + p) (f : y = 256 * z + q) : x + y = 256 * (y + z) + (p + q) := by omega
theorem bd1 {x y p B C : Nat} (e : x = 256 * y + p) (h : p ≤ 8) (hy : y ≤ B) (hC : 256 * B + 8 = C) : x ≤ C := by omega
theorem dv1 {x y p : Nat} (e : x = 256 * y + p) (h : p ≤ 8) : x / 256 = y := by omega
theorem dv2 {x y z p q : Nat} (e : x = 256 * y + p) (f : y = 256 * z + q) (h : p ≤ 16) (k : q ≤ 16) : x / 65536 = z := by omega
theorem sh2 {a b c d p q : Nat} (e : a = 256 * b + p) (f : c = 256 * d + q) : a + c = 256 * (b + d) + (p + q) := by omega
theorem dv4 {a b c d e p q r s : Nat} (h1 : a = 256 * b + p) (h2 : b = 256 * c + q) (h3 : c = 256 * d + r) (h4 : d = 256 * e + s) (k1 : p ≤ 32) (k2 : q ≤ 32) (k3 : r ≤ 32) (k4 : s ≤ 32) : a / 4294967296 = e := by omega
theorem md4 {a b c d p q : Nat} (h1 : a = 256 * b + p) (h2 : c = 256 * d + q) (k1 : p ≤ 32) (k2 : q ≤ 32) : (a + c) % 128 = p + q := by omega
theorem bg1 {x a b c : Nat} (h1 : a ≤ 2260630401189896) (h2 : b ≤ 8830587504648) (h3 : c ≤ 34494482440) (h : x ≤ 578721382704613384) : x + a + (b + c) < 9223372036854775808 := by omega
theorem bg2 {x a b c d e f g : Nat} (h1 : a ≤ 2260630401189896) (h2 : b ≤ 8830587504648) (h3 : c ≤ 34494482440) (h4 : d ≤ 134744072) (h5 : e ≤ 526344) (h6 : f ≤ 2056) (h7 : g ≤ 8) (h : x ≤ 578721382704613384) : x + a + (b + c) + (d + e + (f + g)) < 9223372036854775808 := by omega
theorem add2 {a b B : Nat} (h : a ≤ B) (k : b ≤ B) (hB : B + B < 9223372036854775808) : a + b < 9223372036854775808 := by omega
theorem sums {p0 p1 p2 p3 p4 p5 p6 p7 x y1 y2 y3 y4 y5 y6 y7 : Nat} (e0 : x = 256 * y1 + p0) (e1 : y1 = 256 * y2 + p1) (e2 : y2 = 256 * y3 + p2) (e3 : y3 = 256 * y4 + p3) (e4 : y4 = 256 * y5 + p4) (e5 : y5 = 256 * y6 + p5) (e6 : y6 = 256 * y7 + p6) (e7 : y7 = p7)
    (h0 : p0 ≤ 8) (h1 : p1 ≤ 8) (h2 : p2 ≤ 8) (h3 : p3 ≤ 8) (h4 : p4 ≤ 8) (h5 : p5 ≤ 8) (h6 : p6 ≤ 8) (h7 : p7 ≤ 8) :
    ∃ x4 x5 x6, x4 = x + x / 256 ∧ x5 = x4 + x4 / 65536 ∧ x6 = x5 + x5 / 4294967296 ∧ x4 < 9223372036854775808 ∧ x5 < 9223372036854775808 ∧ x6 < 9223372036854775808 ∧ x6 % 128 = p0 + p1 + p2 + p3 + p4 + p5 + p6 + p7 := by
  have b7 : y7 ≤ 8 := by rw [e7]; exact h7
  have e7 : y7 = 256 * 0 + p7 := by rw [e7]; simp
  have b6 := bd1 e6 h6 b7 rfl
  have b5 := bd1 e5 h5 b6 rfl
  have b4 := bd1 e4 h4 b5 rfl
  have b3 := bd1 e3 h3 b4 rfl
  have b2 := bd1 e2 h2 b3 rfl
  have b1 := bd1 e1 h1 b2 rfl
  have b0 := bd1 e0 h0 b1 rfl
  have f1 : x / 256 = y1 := dv1 e0 h0
  have k0 := sh1 e0 e1
  have k1 := sh1 e1 e2
  have k2 := sh1 e2 e3
  have k3 := sh1 e3 e4
  have k4 := sh1 e4 e5
  have k5 := sh1 e5 e6
  have k6 := sh1 e6 e7
  have q : ∀ {a b : Nat}, a ≤ 8 → b ≤ 8 → a + b ≤ 16 := fun h k => Nat.add_le_add h k
  have q2 : ∀ {a b : Nat}, a ≤ 16 → b ≤ 16 → a + b ≤ 32 := fun h k => Nat.add_le_add h k
  have f2 := dv2 k0 k1 (q h0 h1) (q h1 h2)
  have n0 := sh2 k0 k2
  have n1 := sh2 k1 k3
  have n2 := sh2 k2 k4
  have n3 := sh2 k3 k5
  have n4 := sh2 k4 k6
  have f3 := dv4 n0 n1 n2 n3 (q2 (q h0 h1) (q h2 h3)) (q2 (q h1 h2) (q h3 h4)) (q2 (q h2 h3) (q h4 h5)) (q2 (q h3 h4) (q h5 h6))
  have hz : x + y1 < 9223372036854775808 := Nat.lt_of_le_of_lt (Nat.add_le_add b0 b1) (by decide)
  have ym : y1 ≤ 2260630401189896 ∧ y2 ≤ 8830587504648 ∧ y3 ≤ 34494482440 ∧ y4 ≤ 134744072 ∧ y5 ≤ 526344 ∧ x ≤ 578721382704613384 := ⟨b1, b2, b3, b4, b5, b0⟩
  refine ⟨x + y1, x + y1 + (y2 + y3), x + y1 + (y2 + y3) + (y4 + y5 + (y6 + y7)), by rw [f1], by rw [f2], by rw [f3], hz, ?_, ?_, ?_⟩
  · exact bg1 ym.1 ym.2.1 ym.2.2.1 ym.2.2.2.2.2
  · exact bg2 ym.1 ym.2.1 ym.2.2.1 ym.2.2.2.1 ym.2.2.2.2.1 b6 b7 ym.2.2.2.2.2
  · rw [md4 n0 n4 (q2 (q h0 h1) (q h2 h3)) (q2 (q h4 h5) (q h6 h7))]
    simp only [Nat.add_assoc]
theorem reps : rep 85 8 = 6148914691236517205 ∧ rep 51 8 = 3689348814741910323 ∧ rep 15 8 = 1085102592571150095 := by decide +kernel
/-- As the library counts. -/
theorem pop64 {x : Nat} (h : x < 18446744073709551616) : ∃ x1 x2 x3 x4 x5 x6, x1 = (x >>> 1 &&& 6148914691236517205) + (x &&& 6148914691236517205) ∧ x2 = (x1 >>> 2 &&& 3689348814741910323) + (x1 &&& 3689348814741910323) ∧
    x3 = (x2 >>> 4 + x2) &&& 1085102592571150095 ∧ x4 = x3 + x3 / 256 ∧ x5 = x4 + x4 / 65536 ∧ x6 = x5 + x5 / 4294967296 ∧ x1 < 18446744073709551616 ∧ x2 < 9223372036854775808 ∧ x2 >>> 4 + x2 < 18446744073709551616 ∧ x4 < 9223372036854775808 ∧ x5 < 9223372036854775808 ∧ x6 < 9223372036854775808 ∧ x6 % 128 = (bitsOf x).length := by
  obtain ⟨hs, _⟩ := swar 8 x h
  obtain ⟨r1, r2, r3⟩ := reps
  rw [r1, r2, r3] at hs
  have b0 := pc8_le (x % 256) (Nat.mod_lt _ (by omega))
  have b1 := pc8_le (x / 256 % 256) (Nat.mod_lt _ (by omega))
  have b2 := pc8_le (x / 256 / 256 % 256) (Nat.mod_lt _ (by omega))
  have b3 := pc8_le (x / 256 / 256 / 256 % 256) (Nat.mod_lt _ (by omega))
  have b4 := pc8_le (x / 256 / 256 / 256 / 256 % 256) (Nat.mod_lt _ (by omega))
  have b5 := pc8_le (x / 256 / 256 / 256 / 256 / 256 % 256) (Nat.mod_lt _ (by omega))
  have b6 := pc8_le (x / 256 / 256 / 256 / 256 / 256 / 256 % 256) (Nat.mod_lt _ (by omega))
  have b7 := pc8_le (x / 256 / 256 / 256 / 256 / 256 / 256 / 256 % 256) (Nat.mod_lt _ (by omega))
  have hl : (bitsOf x).length = pc 8 (x % 256) + pc 8 (x / 256 % 256) + pc 8 (x / 256 / 256 % 256) + pc 8 (x / 256 / 256 / 256 % 256) + pc 8 (x / 256 / 256 / 256 / 256 % 256) + pc 8 (x / 256 / 256 / 256 / 256 / 256 % 256) + pc 8 (x / 256 / 256 / 256 / 256 / 256 / 256 % 256) + pc 8 (x / 256 / 256 / 256 / 256 / 256 / 256 / 256 % 256) := by
    have e1 : pc 64 x = pc 8 (x % 256) + pc 56 (x / 256) := pc_8 56 _
    have e2 : pc 56 (x / 256) = pc 8 (x / 256 % 256) + pc 48 (x / 256 / 256) := pc_8 48 _
    have e3 : pc 48 (x / 256 / 256) = pc 8 (x / 256 / 256 % 256) + pc 40 (x / 256 / 256 / 256) := pc_8 40 _
    have e4 : pc 40 (x / 256 / 256 / 256) = pc 8 (x / 256 / 256 / 256 % 256) + pc 32 (x / 256 / 256 / 256 / 256) := pc_8 32 _
    have e5 : pc 32 (x / 256 / 256 / 256 / 256) = pc 8 (x / 256 / 256 / 256 / 256 % 256) + pc 24 (x / 256 / 256 / 256 / 256 / 256) := pc_8 24 _
    have e6 : pc 24 (x / 256 / 256 / 256 / 256 / 256) = pc 8 (x / 256 / 256 / 256 / 256 / 256 % 256) + pc 16 (x / 256 / 256 / 256 / 256 / 256 / 256) := pc_8 16 _
    have e7 : pc 16 (x / 256 / 256 / 256 / 256 / 256 / 256) = pc 8 (x / 256 / 256 / 256 / 256 / 256 / 256 % 256) + pc 8 (x / 256 / 256 / 256 / 256 / 256 / 256 / 256) := pc_8 8 _
    have e8 : pc 8 (x / 256 / 256 / 256 / 256 / 256 / 256 / 256) = pc 8 (x / 256 / 256 / 256 / 256 / 256 / 256 / 256 % 256) := pc_8 0 _
    rw [bitsOf_pc, e1, e2, e3, e4, e5, e6, e7, e8]
    simp only [Nat.add_assoc]
  have q : ∀ n y, pcs (n + 1) y = 256 * pcs n (y / 256) + pc 8 (y % 256) := fun _ _ => rfl
  obtain ⟨x4, x5, x6, e4, e5, e6, l4, l5, l6, e7⟩ := sums (q 7 x) (q 6 _) (q 5 _) (q 4 _) (q 3 _) (q 2 _) (q 1 _) (by rw [q]; simp only [pcs, Nat.mul_zero, Nat.zero_add]) b0 b1 b2 b3 b4 b5 b6 b7
  have m1 : F1 1 6148914691236517205 x ≤ 6148914691236517205 + 6148914691236517205 := Nat.add_le_add Nat.and_le_right Nat.and_le_right
  have m2 : ∀ y, F1 2 3689348814741910323 y ≤ 3689348814741910323 + 3689348814741910323 := fun y => Nat.add_le_add Nat.and_le_right Nat.and_le_right
  have m3 := m2 (F1 1 6148914691236517205 x)
  refine ⟨_, _, pcs 8 x, x4, x5, x6, rfl, rfl, hs.symm, e4, e5, e6, ?_, ?_, ?_, l4, l5, l6, e7.trans hl.symm⟩
  · show F1 1 6148914691236517205 x < _; omega
  · show F1 2 3689348814741910323 (F1 1 6148914691236517205 x) < _; omega
  · show F1 2 3689348814741910323 (F1 1 6148914691236517205 x) >>> 4 + F1 2 3689348814741910323 (F1 1 6148914691236517205 x) < _
    rw [Nat.shiftRight_eq_div_pow]
    omega
/-! ### The key -/
def keyOf (b : Blk) : List Nat := (List.range 4).map (fun i => b.a.toNat / 2 ^ (8 * i) % 256) ++ (List.range 8).map fun i => b.w / 2 ^ (8 * i) % 256
def keyB (bs : List Blk) : List Nat := bs.flatMap keyOf
theorem keyOf_len (b : Blk) : (keyOf b).length = 12 := by simp [keyOf]
theorem keyOf_inj {x y : Blk} (hx : 0 ≤ x.a ∧ x.a < 4294967296 ∧ x.w < 18446744073709551616) (hy : 0 ≤ y.a ∧ y.a < 4294967296 ∧ y.w < 18446744073709551616) (h : keyOf x = keyOf y) : x = y := by
  have := List.append_inj h (by simp)
  obtain ⟨h1, h2⟩ := this
  simp only [List.range_succ, List.range_zero, List.map_append, List.map_nil, List.map_cons, List.nil_append, List.cons_append, List.cons.injEq, List.append_assoc, and_true] at h1 h2
  cases x; cases y
  simp only [Blk.mk.injEq] at *
  omega
theorem keyB_inj : ∀ {xs ys : List Blk}, (∀ b ∈ xs, 0 ≤ b.a ∧ b.a < 4294967296 ∧ b.w < 18446744073709551616) → (∀ b ∈ ys, 0 ≤ b.a ∧ b.a < 4294967296 ∧ b.w < 18446744073709551616) → keyB xs = keyB ys → xs = ys
  | [], [], _, _, _ => rfl
  | [], y :: ys, _, _, h => by
    have h : [] = keyOf y ++ keyB ys := h
    have := congrArg List.length h
    rw [List.length_append, keyOf_len] at this
    simp only [List.length_nil] at this
    omega
  | x :: xs, [], _, _, h => by
    have h : keyOf x ++ keyB xs = [] := h
    have := congrArg List.length h
    rw [List.length_append, keyOf_len] at this
    simp only [List.length_nil] at this
    omega
  | x :: xs, y :: ys, hx, hy, h => by
    have h : keyOf x ++ keyB xs = keyOf y ++ keyB ys := h
    obtain ⟨h1, h2⟩ := List.append_inj h (by rw [keyOf_len, keyOf_len])
    rw [keyOf_inj (hx x (by simp)) (hy y (by simp)) h1, keyB_inj (fun b hb => hx b (by simp [hb])) (fun b hb => hy b (by simp [hb])) h2]
end Go.Proofs.Ytomldckplkecbaa

/- Sets of numbers in memory: rows of blocks; what leaves all but some blocks as it was; steps that their functions need. -/
namespace Go.Proofs.Ytomldckplkecbaa
open Go.RowKit
set_option linter.unusedVariables false
set_option linter.unusedSimpArgs false
/-- All that was there is as it was, but for the blocks of rb. -/
structure Kept (rb : List Nat) (w w' : World) : Prop where
  os : w'.os = w.os
  tape : w'.tape = w.tape
  output : w'.output = w.output
  size : w.heap.size ≤ w'.heap.size
  block : ∀ k, k < w.heap.size → k ∉ rb → w'.heap[k]? = w.heap[k]?
section
variable {rb rb2 : List Nat} {w w1 w2 : World}
theorem Kept.of (h : Below w.heap.size w w1) : Kept rb w w1 := ⟨h.os, h.tape, h.output, h.size, fun k hk _ => h.block k hk⟩
theorem Kept.refl (rb : List Nat) (w : World) : Kept rb w w := Kept.of (Below.refl _ _)
theorem Kept.below_nil (h : Kept [] w w1) : Below w.heap.size w w1 := ⟨h.os, h.tape, h.output, h.size, fun k hk => h.block k hk (by simp)⟩
/-- One step more; what it writes that is new doesn't count. -/
theorem Kept.trans (h : Kept rb w w1) (k : Kept rb2 w1 w2) (hs : ∀ b ∈ rb2, b ∈ rb ∨ w.heap.size ≤ b) : Kept rb w w2 :=
  ⟨k.os.trans h.os, k.tape.trans h.tape, k.output.trans h.output, Nat.le_trans h.size k.size, fun i hi hn => (k.block i (Nat.lt_of_lt_of_le hi h.size) (fun hm => (hs i hm).elim hn (fun h3 => by omega))).trans (h.block i hi hn)⟩
theorem Kept.up (h : Kept rb w w1) (k : Below w1.heap.size w1 w2) : Kept rb w w2 := h.trans (Kept.of (rb := []) k) (by simp)
theorem Kept.put (h : Kept rb w w1) {g : Nat} {cs : List Value} {t : TypeId} (hp : Put w1 w2 g cs t) (hg : g ∈ rb ∨ w.heap.size ≤ g) : Kept rb w w2 :=
  h.trans (rb2 := [g]) ⟨hp.grown.os, hp.grown.tape, hp.grown.output, hp.grown.size, fun k hk hn => hp.grown.block k hk (by simp; intro e; subst e; exact hn (by simp))⟩ (by simpa using hg)
theorem Kept.grown {row : Option Nat} (h : Kept rb w w1) (hg : w1.grownBy w2 row) (hr : ∀ g, row = some g → g ∈ rb ∨ w.heap.size ≤ g) : Kept rb w w2 :=
  h.trans (rb2 := row.toList) ⟨hg.os, hg.tape, hg.output, hg.size, fun k hk hn => hg.block k hk (fun e => hn (by simp [← e]))⟩ (fun b hb => hr b (by simpa using hb))
theorem Kept.blk (h : Kept rb w w1) {g : Nat} {o : Obj} (hb : w.heap[g]? = some o) (hn : g ∉ rb) : w1.heap[g]? = some o := (h.block g (blk_lt hb) hn).trans hb
theorem Kept.below {w0 : World} {B : Nat} (h : Kept rb w w1) (hb : Below B w0 w) (hB : B ≤ w.heap.size) (hr : ∀ k ∈ rb, B ≤ k) : Below B w0 w1 :=
  hb.trans ⟨h.os, h.tape, h.output, h.size, fun k hk => h.block k (Nat.lt_of_lt_of_le hk hB) fun hm => by have := hr k hm; omega⟩
theorem Kept.more (h : Kept rb w w1) (hs : ∀ b ∈ rb, b ∈ rb2) : Kept rb2 w w1 := ⟨h.os, h.tape, h.output, h.size, fun k hk hn => h.block k hk (fun hm => hn (hs k hm))⟩
end
/-! ### Blocks of numbers -/
def dBlk : Dec Blk := fun _ cs b => cs = [.int .i64 b.a, .int .u64 (b.w : Int)]
theorem stays_Blk : Stays dBlk := ⟨fun _ _ _ _ _ h => h⟩
def blkC (b : Blk) : List Value := [.int .i64 b.a, .int .u64 (b.w : Int)]
def flatB (bs : List Blk) : List Value := bs.flatMap blkC
theorem flatB_len (bs : List Blk) : (flatB bs).length = bs.length * 2 := by
  induction bs with
  | nil => rfl
  | cons b bs ih =>
    have : (flatB (b :: bs)).length = 2 + (flatB bs).length := by simp [flatB, blkC]; omega
    rw [this, ih, List.length_cons]; omega
theorem flatB_app (xs ys : List Blk) : flatB (xs ++ ys) = flatB xs ++ flatB ys := by simp [flatB]
theorem flatB_one (b : Blk) : flatB [b] = blkC b := by simp [flatB]
theorem flatB_cons (b : Blk) (bs : List Blk) : flatB (b :: bs) = blkC b ++ flatB bs := by simp [flatB]
theorem flatB_take (bs : List Blk) (i : Nat) (hi : i ≤ bs.length) : (flatB bs).take (i * 2) = flatB (bs.take i) := by
  conv => lhs; rw [← List.take_append_drop i bs, flatB_app]
  rw [List.take_append_of_le_length (by rw [flatB_len, List.length_take]; omega), List.take_of_length_le (by rw [flatB_len, List.length_take]; omega)]
theorem flatB_drop (bs : List Blk) (i : Nat) (hi : i ≤ bs.length) : (flatB bs).drop (i * 2) = flatB (bs.drop i) := by
  conv => lhs; rw [← List.take_append_drop i bs, flatB_app]
  have e : (flatB (bs.take i)).length = i * 2 := by rw [flatB_len]; simp; omega
  rw [← e, List.drop_left]
theorem flatB_at (bs : List Blk) (i : Nat) (hi : i < bs.length) : ((flatB bs).drop (i * 2)).take 2 = blkC bs[i]! := by
  rw [flatB_drop bs i (by omega), getElem!_pos bs i hi, List.drop_eq_getElem_cons hi, flatB_cons]
  rfl
theorem elemsB (w : World) (bs : List Blk) : Elems 2 dBlk w (flatB bs) bs := ⟨flatB_len bs, fun i hi => flatB_at bs i hi⟩
theorem elemsB_eq {w : World} : ∀ {bs : List Blk} {flat : List Value}, Elems 2 dBlk w flat bs → flat = flatB bs
  | [], flat, h => by
    have := h.1
    simp at this
    rw [this]; rfl
  | b :: bs, flat, h => by
    have h0 := h.2 0 (by simp)
    simp only [Nat.zero_mul, List.drop_zero] at h0
    have h0 : flat.take 2 = blkC b := by simpa [dBlk, blkC] using h0
    have ht : Elems 2 dBlk w (flat.drop 2) bs := by
      refine ⟨by have := h.1; simp at this ⊢; omega, fun i hi => ?_⟩
      have := h.2 (i + 1) (by simpa using hi)
      rw [List.drop_drop]
      have e : 2 + i * 2 = (i + 1) * 2 := by omega
      rw [e]
      simpa using this
    rw [flatB_cons, ← h0, ← elemsB_eq ht, List.take_append_drop]
theorem oneB (bs : List Blk) : ∀ u ∈ flatB bs, u.oneCell' = true := by
  intro u hu
  obtain ⟨b, _, hb⟩ := List.mem_flatMap.1 hu
  simp [blkC] at hb
  rcases hb with rfl | rfl <;> rfl
theorem one_Blk : OneC dBlk := fun w cs x h u hu => by
  rw [show cs = blkC x from h] at hu
  simp [blkC] at hu
  rcases hu with rfl | rfl <;> rfl
/-- A block's two cells, where they lie. -/
theorem rowB_at {w : World} {A : Option Addr} {bs : List Blk} (h : RowR 2 dBlk w A bs) (i : Nat) (hi : i < bs.length) : ∃ ad, A = some ad ∧ cellsAt w (ad.add (i * 2)) 0 [.int .i64 bs[i]!.a, .int .u64 (bs[i]!.w : Int)] := by
  obtain ⟨ad, cs, e, _, hc, hd⟩ := row_at h i hi
  rw [show cs = _ from hd] at hc
  exact ⟨ad, e, hc⟩
/-! ### A set -/
section
variable {base g : Nat} {w w1 : World} {bs : List Blk} {fp : List Nat}
end
/-! ### Steps -/
section
variable {P : Program} {T : Nat → Option TI} {n : Nat} {Q : Post} {F : Fm} {w : World} {ops : Array Oper} {rest : List Oper} {o : Oper} {K : Fm → Prop} {C : World → Prop}
/-- A function of two results. -/
theorem fin2 {fn : Func} {R : Ending → World → Prop} {s t : Tmp} {u v : Value} (hr : fn.results = #[.tmp s, .tmp t]) (hu : opn (F s) = some u) (hv : opn (F t) = some v) (h : R (.returned (.tuple #[u, v])) w) : Fin P fn R F w := by
  rw [opn_eq] at hu hv
  have hu := Option.some.inj hu
  have hv := Option.some.inj hv
  unfold Fin retQ
  intro tmps ht
  refine ⟨.tuple #[u, v], ?_, h⟩
  rw [results_tmp2 hr tmps P w, ht s, ht t, hu, hv]
def arrT (T : Nat → Option TI) (t e s len : Nat) : Bool := match T t, T e with
  | some ⟨.array l e', _, _, _⟩, some i => Nat.beq e' e && Nat.beq i.size s && Nat.beq l len
  | _, _ => false
theorem wl_XA (hT : TabOk P T) (e s len : Nat) {t : TypeId} {x ix : Operand} {a : Addr} {ki : IntKind} {i : Nat} (hop : o.op = .indexAddr t x ix) (hx : ev F x = .pointer (some a)) (hi : ev F ix = .int ki i) (h1 : arrT T t e s len = true) (hg : o.guard = none) {d : Nat} (hd : o.dst = some d) (hn : Nat.blt d n = true)
    (hl : i < len) (k : wl P n ops rest Q (upd F d (.pointer (some (a.add (i * s))))) w) : wl P n ops (o :: rest) Q F w := by
  refine wl_val hg hd hn ?_ k
  unfold arrT at h1
  split at h1
  · rename_i l e' sz by_ z i2 e1 e2
    simp only [Bool.and_eq_true] at h1
    have h2 := Nat.eq_of_beq_eq_true h1.1.1
    have h3 := Nat.eq_of_beq_eq_true h1.1.2
    have h4 := Nat.eq_of_beq_eq_true h1.2
    subst h2 h3 h4
    have hu := T_u hT e1
    have hs := run_size (w := w) hT e2
    simp [execOp, hop, hx, hi, Instr.indexAt, asIntOf, run_und hu, hs, hl, Instr.sureAddr]
  · cases h1
/-- append(v, make(.., m)...), where there is no room. -/
theorem wl_apz (hT : TabOk P T) (e s b : Nat) {t tn : TypeId} {kn : IntKind} {c : Call} {x y : Operand} {g sLen sCap m : Nat} {mi : Int} {i : TI} {olds z : List Value} {cur : List Value} {t' : TypeId} (hop : o.op = .call c) (hcal : c.callee = .builtin .append) (hargs : c.args.toList = [x, y]) (htys : c.argTypes.toList = [t, tn])
    (hx : ev F x = .slice (some ⟨g, 0, none⟩) sLen sCap) (hmi : mi = (m : Int)) (hy : ev F y = .int .i64 mi) (h1 : appT T t e s b = true) (htn : P.underlying tn = some (.int kn)) (hi : T e = some i) (hz : i.zero.cells = z.toArray) (hs0 : Nat.blt 0 s = true) (hg : o.guard = none) {d : Nat} (hd : o.dst = some d) (hn : Nat.blt d n = true)
    (hb : w.heap[g]? = some (.cells cur.toArray t' (0, 0))) (hol : olds = cur.take (sLen * s)) (hl : sLen * s ≤ cur.length) (hm0 : 0 < m) (hgr : sCap < sLen + m) (hbig : (sLen + m) * b ≤ 140737488355328) (h63 : sLen + m ≤ 9223372036854775807)
    (k : ∀ cap w1 more, New w w1 w.heap.size (olds ++ (List.replicate m z).flatten ++ more) e → sLen + m ≤ cap → cap ≤ maxLen → (olds ++ (List.replicate m z).flatten ++ more).length = cap * s → wl P n ops rest Q (upd F d (.slice (some ⟨w.heap.size, 0, none⟩) (sLen + m) cap)) w1) : wl P n ops (o :: rest) Q F w := by
  subst hmi
  obtain ⟨hu, j, z', hj, hz', hs, hby, hzs⟩ := appT_ok hT h1
  obtain ⟨j2, hj2, hz2, _, _⟩ := T_i hT hi
  rw [hj] at hj2
  cases hj2
  rw [hz'] at hz2
  cases hz2
  obtain ⟨callee, ⟨args⟩, ⟨tys⟩⟩ := c
  simp only at hcal hargs htys
  subst hcal hargs htys
  have hlen : (cur.take (sLen * s)).length = sLen * s := by simp; omega
  have hold : (Builtin.firstCells j.size sLen (.slice (some ⟨g, 0, none⟩) sLen sCap)).run P w.drew = .ok olds.toArray w.drew := by
    have := run_loadCells_list (P := P) w.drew ⟨g, 0, none⟩ olds (fun q u hu => by
      have e : w.drew.cell? ((⟨g, 0, none⟩ : Addr).add q) = w.cell? ((⟨g, 0, none⟩ : Addr).add q) := rfl
      rw [e, add_zero]
      refine cell_blk hb ?_
      rw [hol] at hu
      rw [List.getElem?_take] at hu
      split at hu
      · simpa using hu
      · cases hu)
    rw [hol, hlen] at this
    simp only [Builtin.firstCells, hs, hol]
    exact this
  have hneed : sLen + m ≤ maxLen := by simp only [maxLen]; omega
  have hfit : Builtin.nextslicecap (sLen + m) sCap * j.bytes ≤ 281474976710656 := growslice_fits hgr (by rw [hby]; exact hbig)
  have hmb : m * j.bytes ≤ 281474976710656 := by
    have : m * j.bytes ≤ (sLen + m) * b := by rw [hby]; exact Nat.mul_le_mul_right _ (by omega)
    omega
  have hr := Lib.run_append_grow_zeros (P := P) w t tn o.type e j i.zero .i64 kn hu htn hj hz' (some ⟨g, 0, none⟩) sLen sCap olds hold m hm0 (by rw [hs]; exact nblt hs0) hgr (by omega) hmb hfit
  have hzl : z.length = s := by rw [hz] at hzs; simpa using hzs
  have hc : ∀ q, Builtin.zeroCells i.zero.cells q = ((List.replicate q z).flatten).toArray := fun q => by
    rw [← zeros_eq z q]
    unfold Builtin.zeroCells
    rw [hz]
    apply Array.ext'
    simp
  rw [hc, hc] at hr
  refine wl_val hg hd hn (v := .slice (some ⟨w.heap.size, 0, none⟩) (sLen + m) (grownCap w (sLen + m) sCap e)) (w1 := w.drew.alloc (.cells (olds ++ (List.replicate m z).flatten ++ (List.replicate (grownCap w (sLen + m) sCap e - (sLen + m)) z).flatten).toArray e)) ?_ (k _ _ (List.replicate (grownCap w (sLen + m) sCap e - (sLen + m)) z).flatten ?_ (grownCap_ge ..) (grownCap_le_maxLen _ _ _ _ hneed) ?_)
  · simp only [List.append_toArray] at hr
    simp [execOp, hop, resolve, invoke, builtin, hx, hy, hr]
  · have hn2 := new_alloc w.drew (olds ++ (List.replicate m z).flatten ++ (List.replicate (grownCap w (sLen + m) sCap e - (sLen + m)) z).flatten) e
    exact ⟨hn2.at_, hn2.size, hn2.blk, ⟨hn2.below.os, hn2.below.tape, hn2.below.output, hn2.below.size, hn2.below.block⟩⟩
  · have hge := grownCap_ge w (sLen + m) sCap e
    have : grownCap w (sLen + m) sCap e = sLen + m + (grownCap w (sLen + m) sCap e - (sLen + m)) := by omega
    rw [this]
    simp only [List.length_append, List.length_flatten, List.map_replicate, List.sum_replicate_nat, hol, hlen, hzl, Nat.add_mul, Nat.add_sub_cancel_left]
/-! ### nil or not -/
def ptrT (T : Nat → Option TI) (t : Nat) : Bool := match T t with
  | some ⟨.pointer _, _, _, _⟩ => true
  | _ => false
theorem pn_run (hT : TabOk P T) {t : TypeId} {x : Operand} {yt : TypeId} {A : Option Addr} (hop : o.op = .binOp .eql t x (.const (.pointer none)) yt) (hx : ev F x = .pointer A) (h1 : ptrT T t = true) : (execOp (ev F) o).run P w = .ok (.value (.bool A.isNone)) w := by
  unfold ptrT at h1
  split at h1
  · rename_i e1
    have hu := T_u hT e1
    have h2 : (Op.equal t (.pointer A) (.pointer none)).run P w = .ok A.isNone w := by
      unfold Op.equal Op.maxDepth
      rw [show (10000 : Nat) = 9999 + 1 from rfl]
      unfold Op.equalIn
      cases A <;> simp [run_und hu]
    have hy : ev F (.const (.pointer none)) = .pointer none := rfl
    simp [execOp, hop, hx, hy, eqGuard, binOp, h2]
  · cases h1
theorem wl_pnT (hT : TabOk P T) {t : TypeId} {x : Operand} {yt : TypeId} (hop : o.op = .binOp .eql t x (.const (.pointer none)) yt) (hx : ev F x = .pointer none) (h1 : ptrT T t = true) (hg : o.guard = none) {d : Nat} (hd : o.dst = some d) (hn : Nat.blt d n = true)
    (k : wl P n ops rest Q (upd F d (.bool true)) w) : wl P n ops (o :: rest) Q F w := wl_val hg hd hn (pn_run hT hop hx h1) k
theorem wl_pnF (hT : TabOk P T) {t : TypeId} {x : Operand} {yt : TypeId} {a : Addr} (hop : o.op = .binOp .eql t x (.const (.pointer none)) yt) (hx : ev F x = .pointer (some a)) (h1 : ptrT T t = true) (hg : o.guard = none) {d : Nat} (hd : o.dst = some d) (hn : Nat.blt d n = true)
    (k : wl P n ops rest Q (upd F d (.bool false)) w) : wl P n ops (o :: rest) Q F w := wl_val hg hd hn (pn_run hT hop hx h1) k
theorem pnn_run (hT : TabOk P T) {t : TypeId} {x : Operand} {yt : TypeId} {A : Option Addr} (hop : o.op = .binOp .neq t x (.const (.pointer none)) yt) (hx : ev F x = .pointer A) (h1 : ptrT T t = true) : (execOp (ev F) o).run P w = .ok (.value (.bool (!A.isNone))) w := by
  unfold ptrT at h1
  split at h1
  · rename_i e1
    have hu := T_u hT e1
    have h2 : (Op.equal t (.pointer A) (.pointer none)).run P w = .ok A.isNone w := by
      unfold Op.equal Op.maxDepth
      rw [show (10000 : Nat) = 9999 + 1 from rfl]
      unfold Op.equalIn
      cases A <;> simp [run_und hu]
    have hy : ev F (.const (.pointer none)) = .pointer none := rfl
    simp [execOp, hop, hx, hy, eqGuard, binOp, h2]
  · cases h1
theorem wl_pqT (hT : TabOk P T) {t : TypeId} {x : Operand} {yt : TypeId} (hop : o.op = .binOp .neq t x (.const (.pointer none)) yt) (hx : ev F x = .pointer none) (h1 : ptrT T t = true) (hg : o.guard = none) {d : Nat} (hd : o.dst = some d) (hn : Nat.blt d n = true)
    (k : wl P n ops rest Q (upd F d (.bool false)) w) : wl P n ops (o :: rest) Q F w := wl_val hg hd hn (pnn_run hT hop hx h1) k
theorem wl_pqF (hT : TabOk P T) {t : TypeId} {x : Operand} {yt : TypeId} {a : Addr} (hop : o.op = .binOp .neq t x (.const (.pointer none)) yt) (hx : ev F x = .pointer (some a)) (h1 : ptrT T t = true) (hg : o.guard = none) {d : Nat} (hd : o.dst = some d) (hn : Nat.blt d n = true)
    (k : wl P n ops rest Q (upd F d (.bool true)) w) : wl P n ops (o :: rest) Q F w := wl_val hg hd hn (pnn_run hT hop hx h1) k
theorem wl_snil (hT : TabOk P T) (e s : Nat) {t : TypeId} {x : Operand} {yt : TypeId} {A : Option Addr} {l c : Nat} (hop : o.op = .binOp .eql t x (.const (.slice none 0 0)) yt) (hx : ev F x = .slice A l c) (h1 : sliceT T t e s = true) (hg : o.guard = none) {d : Nat} (hd : o.dst = some d) (hn : Nat.blt d n = true)
    (k : wl P n ops rest Q (upd F d (.bool A.isNone)) w) : wl P n ops (o :: rest) Q F w := by
  refine wl_val hg hd hn ?_ k
  obtain ⟨hu, _⟩ := sliceT_ok (w := w) hT h1
  have : (Op.equal t (.slice A l c) (.slice none 0 0)).run P w = .ok A.isNone w := by
    unfold Op.equal Op.maxDepth
    rw [show (10000 : Nat) = 9999 + 1 from rfl]
    unfold Op.equalIn
    cases A <;> simp [run_und hu]
  have hy : ev F (.const (.slice none 0 0)) = .slice none 0 0 := rfl
  simp [execOp, hop, hx, hy, eqGuard, binOp, this]
/-! ### cap, cuts with their ends told, functions without a body -/
theorem wl_cap (hT : TabOk P T) (e s : Nat) {c : Call} {x : Operand} {t : TypeId} {A : Option Addr} {l cp : Nat} (hop : o.op = .call c) (hcal : c.callee = .builtin .cap) (hargs : c.args.toList = [x]) (htys : c.argTypes.toList = [t]) (hx : ev F x = .slice A l cp) (h1 : sliceT T t e s = true) (hg : o.guard = none) {d : Nat} (hd : o.dst = some d) (hn : Nat.blt d n = true)
    (k : wl P n ops rest Q (upd F d (.int .i64 cp)) w) : wl P n ops (o :: rest) Q F w := by
  refine wl_val hg hd hn ?_ k
  obtain ⟨hu, _⟩ := sliceT_ok (w := w) hT h1
  obtain ⟨callee, ⟨args⟩, ⟨tys⟩⟩ := c
  simp only at hcal hargs htys
  subst hcal hargs htys
  simp [execOp, hop, resolve, invoke, builtin, hx, Builtin.cap_, run_und hu, goInt]
theorem wl_slLr (hT : TabOk P T) (e s : Nat) {t : TypeId} {x y : Operand} {A B : Option Addr} {l c l2 c2 : Nat} {ki : IntKind} {h : Int} {hn' : Nat} (hh : h = (hn' : Int)) (hB : cutA A hn' c s = B) (hl2 : l2 = l - hn') (hc2 : c2 = c - hn') (hc : hn' ≤ l) (hop : o.op = .slice t x (some y) none none) (hx : ev F x = .slice A l c) (hy : ev F y = .int ki h) (h1 : sliceT T t e s = true) (hg : o.guard = none) {d : Nat} (hd : o.dst = some d) (hn : Nat.blt d n = true)
    (k : wl P n ops rest Q (upd F d (.slice B l2 c2)) w) : wl P n ops (o :: rest) Q F w := by
  subst hh hB hl2 hc2
  refine wl_slL hT e s hop hx hy h1 hg hd hn (by omega) (by omega) ?_
  simpa using k
theorem wq_slLr (hT : TabOk P T) (e s : Nat) {t : TypeId} {x y : Operand} {A B : Option Addr} {l c l2 c2 : Nat} {ki : IntKind} {h : Int} {hn' : Nat} (hh : h = (hn' : Int)) (hB : cutA A hn' c s = B) (hl2 : l2 = l - hn') (hc2 : c2 = c - hn') (hc : hn' ≤ l) (hop : o.op = .slice t x (some y) none none) (hx : ev F x = .slice A l c) (hy : ev F y = .int ki h) (h1 : sliceT T t e s = true) (hg : o.guard = none) {d : Nat} (hd : o.dst = some d) (hn : Nat.blt d n = true)
    (k : wq P n ops C rest K (upd F d (.slice B l2 c2))) : wq P n ops C (o :: rest) K F := by
  subst hh hB hl2 hc2
  refine wq_slL hT e s hop hx hy h1 hg hd hn (by omega) (by omega) ?_
  simpa using k
theorem wl_slHr (hT : TabOk P T) (e s : Nat) {t : TypeId} {x y : Operand} {A : Option Addr} {l c : Nat} {ki : IntKind} {h : Int} {hn' : Nat} (hh : h = (hn' : Int)) (hc : hn' ≤ c) (hop : o.op = .slice t x none (some y) none) (hx : ev F x = .slice A l c) (hy : ev F y = .int ki h) (h1 : sliceT T t e s = true) (hg : o.guard = none) {d : Nat} (hd : o.dst = some d) (hn : Nat.blt d n = true)
    (k : wl P n ops rest Q (upd F d (.slice A hn' c)) w) : wl P n ops (o :: rest) Q F w := by
  subst hh
  refine wl_slH hT e s hop hx hy h1 hg hd hn (by omega) (by omega) ?_
  simpa using k
theorem cut_in {g off i c s : Nat} (h : i < c) : cutA (some ⟨g, off, none⟩) i c s = some ⟨g, off + i * s, none⟩ := by
  unfold cutA
  rw [if_neg (by omega)]
  unfold Addr.add
  simp only [Option.map_some]
  split
  · rename_i e; rw [e]; rfl
  · rfl
theorem wl_ext {f : FuncId} {c : Call} {x : Operand} {args : List Value} {v : Value} (he : (callFunc f args.toArray).run P w = .ok (.value v) w) (hop : o.op = .call c) (hcal : c.callee = .value x) (hx : ev F x = .func (.func f) #[] #[]) (hargs : c.args.toList.map (ev F) = args) (hg : o.guard = none) {d : Nat} (hd : o.dst = some d) (hn : Nat.blt d n = true)
    (k : wl P n ops rest Q (upd F d v) w) : wl P n ops (o :: rest) Q F w := by
  refine wl_val hg hd hn ?_ k
  have : c.args.map (ev F) = args.toArray := Array.toList_inj.1 (by rw [Array.toList_map, hargs])
  simp [execOp, hop, resolve, hcal, hx, Deferred.ofValue, this, invoke, he]
end
end Go.Proofs.Ytomldckplkecbaa

/- ovs.label: a knot's label, by what comes into it. -/
namespace Go.Proofs.Ytomldckplkecbaa
open Go.RowKit
set_option linter.unusedVariables false
set_option linter.unusedSimpArgs false
set_option maxRecDepth 100000
/-- A fresh number. -/
theorem oFresh (g m : Nat) (w : World) (hb : w.heap[g]? = some (.cells #[.int .i64 (m : Int)] 3 (0, 0))) (hm : m < 9223372036854775807) :
    Calls Try.prog 24 #[.pointer (some ⟨g, 0, none⟩)] w fun e w' => e = .returned (.int .i64 (m : Int)) ∧ Put w w' g [.int .i64 ((m + 1 : Nat) : Int)] 3 := by
  refine enterR (args := [.pointer (some ⟨g, 0, none⟩)]) tabOk Try.func24 rfl Try.ntmps24 rfl ?_; conv => whnf
  (repeat' (first | (refine wl_Lg tabOk hb rfl rfl rfl rfl rfl rfl rfl (run_l tabOk ?_); conv => whnf) | (refine wl_add rfl rfl rfl rfl rfl rfl (by omega) (by omega) (run_l tabOk ?_); conv => whnf) | (refine wl_sub rfl rfl rfl rfl rfl rfl (by omega) (by omega) (run_l tabOk ?_); conv => whnf) | (refine wl_cvA tabOk rfl rfl rfl (by simp only [inK]; omega) rfl rfl rfl (run_l tabOk ?_); conv => whnf) | (refine wl_cvB tabOk rfl rfl rfl rfl rfl rfl (run_l tabOk ?_); conv => whnf) | (refine wl_rem rfl rfl rfl rfl rfl rfl (by omega) (by omega) (fun r hr hr0 hr1 hr2 => run_l tabOk ?_); conv => whnf) | (refine wl_quo rfl rfl rfl rfl rfl rfl (by omega) (by omega) (by simp only [inK]; omega) (run_l tabOk ?_); conv => whnf) | (refine wl_mul rfl rfl rfl rfl rfl rfl (by omega) (by omega) (run_l tabOk ?_); conv => whnf) | (refine gs_dt (by first | assumption | omega) ?_; conv => whnf) | (refine gs_df (by first | assumption | omega) ?_; conv => whnf) | (refine gs_t (by assumption) ?_; conv => whnf) | (refine gs_f (by assumption) ?_; conv => whnf) | (refine gs_d (fun hg => ?_) (fun hg => ?_) <;> conv => whnf) | (refine gs_n (fun hg => ?_) (fun hg => ?_) <;> conv => whnf) | (refine gs_nb (fun hg => ?_) (fun hg => ?_) <;> conv => whnf) | (refine gs_b (fun hg => ?_) (fun hg => ?_) <;> conv => whnf) | refine fin1 rfl rfl ?_))
  refine wl_S (off := 0) (v := .int .i64 ((m + 1 : Nat) : Int)) tabOk hb rfl rfl rfl rfl rfl rfl (by simp) rfl rfl ?_
  intro w1 hp
  refine run_l tabOk ?_
  conv => whnf
  have hb1 : w1.heap[g]? = some (.cells #[.int .i64 ((m + 1 : Nat) : Int)] 3 (0, 0)) := hp.blk
  (repeat' (first | (refine wl_Lg tabOk hb1 rfl rfl rfl rfl rfl rfl rfl (run_l tabOk ?_); conv => whnf) | (refine wl_add rfl rfl rfl rfl rfl rfl (by omega) (by omega) (run_l tabOk ?_); conv => whnf) | (refine wl_sub rfl rfl rfl rfl rfl rfl (by omega) (by omega) (run_l tabOk ?_); conv => whnf) | (refine wl_cvA tabOk rfl rfl rfl (by simp only [inK]; omega) rfl rfl rfl (run_l tabOk ?_); conv => whnf) | (refine wl_cvB tabOk rfl rfl rfl rfl rfl rfl (run_l tabOk ?_); conv => whnf) | (refine wl_rem rfl rfl rfl rfl rfl rfl (by omega) (by omega) (fun r hr hr0 hr1 hr2 => run_l tabOk ?_); conv => whnf) | (refine wl_quo rfl rfl rfl rfl rfl rfl (by omega) (by omega) (by simp only [inK]; omega) (run_l tabOk ?_); conv => whnf) | (refine wl_mul rfl rfl rfl rfl rfl rfl (by omega) (by omega) (run_l tabOk ?_); conv => whnf) | (refine gs_dt (by first | assumption | omega) ?_; conv => whnf) | (refine gs_df (by first | assumption | omega) ?_; conv => whnf) | (refine gs_t (by assumption) ?_; conv => whnf) | (refine gs_f (by assumption) ?_; conv => whnf) | (refine gs_d (fun hg => ?_) (fun hg => ?_) <;> conv => whnf) | (refine gs_n (fun hg => ?_) (fun hg => ?_) <;> conv => whnf) | (refine gs_nb (fun hg => ?_) (fun hg => ?_) <;> conv => whnf) | (refine gs_b (fun hg => ?_) (fun hg => ?_) <;> conv => whnf) | refine fin1 rfl rfl ?_))
  exact ⟨by congr 2; omega, hp⟩
/-- What a label is. -/
def labelO (S W : List Int) (f : Int → Option Nat) (m : Nat) : Int × Nat × (Int → Option Nat) :=
  match S with
  | x :: _ => (x, m, f)
  | [] => match W with
    | o :: _ => match f o with
      | some q => ((q : Int), m, f)
      | none => ((m : Int), m + 1, putN f o m)
    | [] => (-1, m, f)
def labelF (S W : List Int) (loose : Bool) (f : Int → Option Nat) (m : Nat) : Int × Nat × (Int → Option Nat) :=
  if loose = true ∨ 1 < W.length ∨ 1 < S.length ∨ (W.length = 1 ∧ S.length = 1) then ((m : Int), m + 1, f) else labelO S W f m
/-- The function that gives fresh numbers. -/
def freshV (gn : Nat) : Value := .func (.func 24) #[] #[.pointer (some ⟨gn, 0, none⟩)]
/-- What a label's call leaves. -/
structure OL (w w' : World) (gn bo : Nat) (m : Nat) (f : Int → Option Nat) (no : Nat) : Prop where
  cell : w'.heap[gn]? = some (.cells #[.int .i64 (m : Int)] 3 (0, 0))
  obj : INum w' bo f no
  kept : Kept [gn, bo] w w'
theorem OL.mono {w w' : World} {gn bo m no : Nat} {f : Int → Option Nat} (h : OL w w' gn bo m f (no + 1)) : OL w w' gn bo m f (no + 2) := ⟨h.cell, by obtain ⟨D, q1, q2⟩ := h.obj.ex; exact ⟨D, q1.mono (by omega), q2⟩, h.kept⟩
theorem INum.ne {w : World} {bo gn no : Nat} {f : Int → Option Nat} {cs : Array Value} {t : TypeId} {fr : Nat × Nat} (h : INum w bo f no) (hg : w.heap[gn]? = some (.cells cs t fr)) : bo ≠ gn := by
  obtain ⟨D, ⟨es, clock, hb, _⟩, _⟩ := h.ex
  intro e
  rw [e, hg] at hb
  cases hb
theorem labelF_fresh {S W : List Int} {loose : Bool} {f : Int → Option Nat} {m : Nat} (h : loose = true ∨ 1 < W.length ∨ 1 < S.length ∨ (W.length = 1 ∧ S.length = 1)) : labelF S W loose f m = ((m : Int), m + 1, f) := if_pos h
set_option maxHeartbeats 4000000 in
theorem oLabel {w : World} {bs bw bo gn ns nw no m : Nat} {S W : List Int} {f : Int → Option Nat} (loose : Bool) (hS : ISet w bs S ns) (hW : ISet w bw W nw) (hO : INum w bo f no) (hg : w.heap[gn]? = some (.cells #[.int .i64 (m : Int)] 3 (0, 0)))
    (hm : m < 4611686018427387904) (hno : no < 4611686018427387904) (hSi : ∀ x ∈ S, inI x) (hWi : ∀ x ∈ W, inI x) :
    Calls Try.prog 25 #[.map (some bs), .map (some bw), .bool loose, .map (some bo), freshV gn] w fun e w' => e = .returned (.int .i64 (labelF S W loose f m).1) ∧ OL w w' gn bo (labelF S W loose f m).2.1 (labelF S W loose f m).2.2 (no + 2) := by
  have hne := hO.ne hg
  have hgl := blk_lt hg
  have hol := hO.lt
  have hfr : ∀ w0, OL w w0 gn bo m f (no + 1) → Calls Try.prog 24 #[.pointer (some ⟨gn, 0, none⟩)] w0 fun e w' => e = .returned (.int .i64 (m : Int)) ∧ OL w w' gn bo (m + 1) f (no + 1) := fun w0 h0 => by
    refine (oFresh gn m w0 h0.cell (by omega)).mono ?_
    rintro e w' ⟨he, hp⟩
    exact ⟨he, hp.blk, h0.obj.kept hp.grown (by intro e; injection e with e; exact hne e), Kept.put h0.kept hp (.inl (by simp))⟩
  have hid : OL w w gn bo m f (no + 1) := ⟨hg, by obtain ⟨D, q1, q2⟩ := hO.ex; exact ⟨D, q1.mono (by omega), q2⟩, Kept.refl _ _⟩
  refine enterR (args := [.map (some bs), .map (some bw), .bool loose, .map (some bo), freshV gn]) tabOk Try.func25 rfl Try.ntmps25 rfl ?_; conv => whnf
  by_cases hc : loose = true ∨ 1 < W.length ∨ 1 < S.length ∨ (W.length = 1 ∧ S.length = 1)
  · rw [labelF_fresh hc]
    cases loose with
    | true =>
      conv => whnf
      (repeat' (first | (refine wl_lenM (hS.len setTy) rfl rfl rfl rfl rfl rfl rfl rfl (run_l tabOk ?_); (conv => whnf)) | (refine wl_lenM (hW.len setTy) rfl rfl rfl rfl rfl rfl rfl rfl (run_l tabOk ?_); (conv => whnf)) | (refine wl_add rfl rfl rfl rfl rfl rfl (by omega) (by omega) (run_l tabOk ?_); conv => whnf) | (refine wl_sub rfl rfl rfl rfl rfl rfl (by omega) (by omega) (run_l tabOk ?_); conv => whnf) | (refine wl_cvA tabOk rfl rfl rfl (by simp only [inK]; omega) rfl rfl rfl (run_l tabOk ?_); conv => whnf) | (refine wl_cvB tabOk rfl rfl rfl rfl rfl rfl (run_l tabOk ?_); conv => whnf) | (refine wl_rem rfl rfl rfl rfl rfl rfl (by omega) (by omega) (fun r hr hr0 hr1 hr2 => run_l tabOk ?_); conv => whnf) | (refine wl_quo rfl rfl rfl rfl rfl rfl (by omega) (by omega) (by simp only [inK]; omega) (run_l tabOk ?_); conv => whnf) | (refine wl_mul rfl rfl rfl rfl rfl rfl (by omega) (by omega) (run_l tabOk ?_); conv => whnf) | (refine gs_dt (by first | assumption | omega) ?_; conv => whnf) | (refine gs_df (by first | assumption | omega) ?_; conv => whnf) | (refine gs_t (by assumption) ?_; conv => whnf) | (refine gs_f (by assumption) ?_; conv => whnf) | (refine gs_d (fun hg => ?_) (fun hg => ?_) <;> conv => whnf) | (refine gs_n (fun hg => ?_) (fun hg => ?_) <;> conv => whnf) | (refine gs_nb (fun hg => ?_) (fun hg => ?_) <;> conv => whnf) | (refine gs_b (fun hg => ?_) (fun hg => ?_) <;> conv => whnf) | refine fin1 rfl rfl ?_))
      refine wl_CF fn24 (first := []) (args := []) (caps := [.pointer (some ⟨gn, 0, none⟩)]) (hfr w hid) rfl rfl rfl rfl rfl rfl rfl ?_
      rintro _ w1 ⟨rfl, hO1⟩
      refine ⟨_, rfl, run_l tabOk ?_⟩
      conv => whnf
      (repeat' (first | (refine wl_add rfl rfl rfl rfl rfl rfl (by omega) (by omega) (run_l tabOk ?_); conv => whnf) | (refine wl_sub rfl rfl rfl rfl rfl rfl (by omega) (by omega) (run_l tabOk ?_); conv => whnf) | (refine wl_cvA tabOk rfl rfl rfl (by simp only [inK]; omega) rfl rfl rfl (run_l tabOk ?_); conv => whnf) | (refine wl_cvB tabOk rfl rfl rfl rfl rfl rfl (run_l tabOk ?_); conv => whnf) | (refine wl_rem rfl rfl rfl rfl rfl rfl (by omega) (by omega) (fun r hr hr0 hr1 hr2 => run_l tabOk ?_); conv => whnf) | (refine wl_quo rfl rfl rfl rfl rfl rfl (by omega) (by omega) (by simp only [inK]; omega) (run_l tabOk ?_); conv => whnf) | (refine wl_mul rfl rfl rfl rfl rfl rfl (by omega) (by omega) (run_l tabOk ?_); conv => whnf) | (refine gs_dt (by first | assumption | omega) ?_; conv => whnf) | (refine gs_df (by first | assumption | omega) ?_; conv => whnf) | (refine gs_t (by assumption) ?_; conv => whnf) | (refine gs_f (by assumption) ?_; conv => whnf) | (refine gs_d (fun hg => ?_) (fun hg => ?_) <;> conv => whnf) | (refine gs_n (fun hg => ?_) (fun hg => ?_) <;> conv => whnf) | (refine gs_nb (fun hg => ?_) (fun hg => ?_) <;> conv => whnf) | (refine gs_b (fun hg => ?_) (fun hg => ?_) <;> conv => whnf) | refine fin1 rfl rfl ?_))
      exact ⟨rfl, hO1.mono⟩
    | false =>
      have hc : 1 < W.length ∨ 1 < S.length ∨ (W.length = 1 ∧ S.length = 1) := hc.resolve_left (by simp)
      conv => whnf
      by_cases h1 : 1 < W.length
      · (repeat' (first | (refine wl_lenM (hS.len setTy) rfl rfl rfl rfl rfl rfl rfl rfl (run_l tabOk ?_); (conv => whnf)) | (refine wl_lenM (hW.len setTy) rfl rfl rfl rfl rfl rfl rfl rfl (run_l tabOk ?_); (conv => whnf)) | (refine wl_add rfl rfl rfl rfl rfl rfl (by omega) (by omega) (run_l tabOk ?_); conv => whnf) | (refine wl_sub rfl rfl rfl rfl rfl rfl (by omega) (by omega) (run_l tabOk ?_); conv => whnf) | (refine wl_cvA tabOk rfl rfl rfl (by simp only [inK]; omega) rfl rfl rfl (run_l tabOk ?_); conv => whnf) | (refine wl_cvB tabOk rfl rfl rfl rfl rfl rfl (run_l tabOk ?_); conv => whnf) | (refine wl_rem rfl rfl rfl rfl rfl rfl (by omega) (by omega) (fun r hr hr0 hr1 hr2 => run_l tabOk ?_); conv => whnf) | (refine wl_quo rfl rfl rfl rfl rfl rfl (by omega) (by omega) (by simp only [inK]; omega) (run_l tabOk ?_); conv => whnf) | (refine wl_mul rfl rfl rfl rfl rfl rfl (by omega) (by omega) (run_l tabOk ?_); conv => whnf) | (refine gs_dt (by first | assumption | omega) ?_; conv => whnf) | (refine gs_df (by first | assumption | omega) ?_; conv => whnf) | (refine gs_t (by assumption) ?_; conv => whnf) | (refine gs_f (by assumption) ?_; conv => whnf) | (refine gs_d (fun hg => ?_) (fun hg => ?_) <;> conv => whnf) | (refine gs_n (fun hg => ?_) (fun hg => ?_) <;> conv => whnf) | (refine gs_nb (fun hg => ?_) (fun hg => ?_) <;> conv => whnf) | (refine gs_b (fun hg => ?_) (fun hg => ?_) <;> conv => whnf) | refine fin1 rfl rfl ?_))
        refine wl_CF fn24 (first := []) (args := []) (caps := [.pointer (some ⟨gn, 0, none⟩)]) (hfr w hid) rfl rfl rfl rfl rfl rfl rfl ?_
        rintro _ w1 ⟨rfl, hO1⟩
        refine ⟨_, rfl, run_l tabOk ?_⟩
        conv => whnf
        (repeat' (first | (refine wl_add rfl rfl rfl rfl rfl rfl (by omega) (by omega) (run_l tabOk ?_); conv => whnf) | (refine wl_sub rfl rfl rfl rfl rfl rfl (by omega) (by omega) (run_l tabOk ?_); conv => whnf) | (refine wl_cvA tabOk rfl rfl rfl (by simp only [inK]; omega) rfl rfl rfl (run_l tabOk ?_); conv => whnf) | (refine wl_cvB tabOk rfl rfl rfl rfl rfl rfl (run_l tabOk ?_); conv => whnf) | (refine wl_rem rfl rfl rfl rfl rfl rfl (by omega) (by omega) (fun r hr hr0 hr1 hr2 => run_l tabOk ?_); conv => whnf) | (refine wl_quo rfl rfl rfl rfl rfl rfl (by omega) (by omega) (by simp only [inK]; omega) (run_l tabOk ?_); conv => whnf) | (refine wl_mul rfl rfl rfl rfl rfl rfl (by omega) (by omega) (run_l tabOk ?_); conv => whnf) | (refine gs_dt (by first | assumption | omega) ?_; conv => whnf) | (refine gs_df (by first | assumption | omega) ?_; conv => whnf) | (refine gs_t (by assumption) ?_; conv => whnf) | (refine gs_f (by assumption) ?_; conv => whnf) | (refine gs_d (fun hg => ?_) (fun hg => ?_) <;> conv => whnf) | (refine gs_n (fun hg => ?_) (fun hg => ?_) <;> conv => whnf) | (refine gs_nb (fun hg => ?_) (fun hg => ?_) <;> conv => whnf) | (refine gs_b (fun hg => ?_) (fun hg => ?_) <;> conv => whnf) | refine fin1 rfl rfl ?_))
        exact ⟨rfl, hO1.mono⟩
      by_cases h2 : 1 < S.length
      · (repeat' (first | (refine wl_lenM (hS.len setTy) rfl rfl rfl rfl rfl rfl rfl rfl (run_l tabOk ?_); (conv => whnf)) | (refine wl_lenM (hW.len setTy) rfl rfl rfl rfl rfl rfl rfl rfl (run_l tabOk ?_); (conv => whnf)) | (refine wl_add rfl rfl rfl rfl rfl rfl (by omega) (by omega) (run_l tabOk ?_); conv => whnf) | (refine wl_sub rfl rfl rfl rfl rfl rfl (by omega) (by omega) (run_l tabOk ?_); conv => whnf) | (refine wl_cvA tabOk rfl rfl rfl (by simp only [inK]; omega) rfl rfl rfl (run_l tabOk ?_); conv => whnf) | (refine wl_cvB tabOk rfl rfl rfl rfl rfl rfl (run_l tabOk ?_); conv => whnf) | (refine wl_rem rfl rfl rfl rfl rfl rfl (by omega) (by omega) (fun r hr hr0 hr1 hr2 => run_l tabOk ?_); conv => whnf) | (refine wl_quo rfl rfl rfl rfl rfl rfl (by omega) (by omega) (by simp only [inK]; omega) (run_l tabOk ?_); conv => whnf) | (refine wl_mul rfl rfl rfl rfl rfl rfl (by omega) (by omega) (run_l tabOk ?_); conv => whnf) | (refine gs_dt (by first | assumption | omega) ?_; conv => whnf) | (refine gs_df (by first | assumption | omega) ?_; conv => whnf) | (refine gs_t (by assumption) ?_; conv => whnf) | (refine gs_f (by assumption) ?_; conv => whnf) | (refine gs_d (fun hg => ?_) (fun hg => ?_) <;> conv => whnf) | (refine gs_n (fun hg => ?_) (fun hg => ?_) <;> conv => whnf) | (refine gs_nb (fun hg => ?_) (fun hg => ?_) <;> conv => whnf) | (refine gs_b (fun hg => ?_) (fun hg => ?_) <;> conv => whnf) | refine fin1 rfl rfl ?_))
        refine wl_CF fn24 (first := []) (args := []) (caps := [.pointer (some ⟨gn, 0, none⟩)]) (hfr w hid) rfl rfl rfl rfl rfl rfl rfl ?_
        rintro _ w1 ⟨rfl, hO1⟩
        refine ⟨_, rfl, run_l tabOk ?_⟩
        conv => whnf
        (repeat' (first | (refine wl_add rfl rfl rfl rfl rfl rfl (by omega) (by omega) (run_l tabOk ?_); conv => whnf) | (refine wl_sub rfl rfl rfl rfl rfl rfl (by omega) (by omega) (run_l tabOk ?_); conv => whnf) | (refine wl_cvA tabOk rfl rfl rfl (by simp only [inK]; omega) rfl rfl rfl (run_l tabOk ?_); conv => whnf) | (refine wl_cvB tabOk rfl rfl rfl rfl rfl rfl (run_l tabOk ?_); conv => whnf) | (refine wl_rem rfl rfl rfl rfl rfl rfl (by omega) (by omega) (fun r hr hr0 hr1 hr2 => run_l tabOk ?_); conv => whnf) | (refine wl_quo rfl rfl rfl rfl rfl rfl (by omega) (by omega) (by simp only [inK]; omega) (run_l tabOk ?_); conv => whnf) | (refine wl_mul rfl rfl rfl rfl rfl rfl (by omega) (by omega) (run_l tabOk ?_); conv => whnf) | (refine gs_dt (by first | assumption | omega) ?_; conv => whnf) | (refine gs_df (by first | assumption | omega) ?_; conv => whnf) | (refine gs_t (by assumption) ?_; conv => whnf) | (refine gs_f (by assumption) ?_; conv => whnf) | (refine gs_d (fun hg => ?_) (fun hg => ?_) <;> conv => whnf) | (refine gs_n (fun hg => ?_) (fun hg => ?_) <;> conv => whnf) | (refine gs_nb (fun hg => ?_) (fun hg => ?_) <;> conv => whnf) | (refine gs_b (fun hg => ?_) (fun hg => ?_) <;> conv => whnf) | refine fin1 rfl rfl ?_))
        exact ⟨rfl, hO1.mono⟩
      have h3 : W.length = 1 ∧ S.length = 1 := by omega
      obtain ⟨h3, h4⟩ := h3
      (repeat' (first | (refine wl_lenM (hS.len setTy) rfl rfl rfl rfl rfl rfl rfl rfl (run_l tabOk ?_); (conv => whnf)) | (refine wl_lenM (hW.len setTy) rfl rfl rfl rfl rfl rfl rfl rfl (run_l tabOk ?_); (conv => whnf)) | (refine wl_add rfl rfl rfl rfl rfl rfl (by omega) (by omega) (run_l tabOk ?_); conv => whnf) | (refine wl_sub rfl rfl rfl rfl rfl rfl (by omega) (by omega) (run_l tabOk ?_); conv => whnf) | (refine wl_cvA tabOk rfl rfl rfl (by simp only [inK]; omega) rfl rfl rfl (run_l tabOk ?_); conv => whnf) | (refine wl_cvB tabOk rfl rfl rfl rfl rfl rfl (run_l tabOk ?_); conv => whnf) | (refine wl_rem rfl rfl rfl rfl rfl rfl (by omega) (by omega) (fun r hr hr0 hr1 hr2 => run_l tabOk ?_); conv => whnf) | (refine wl_quo rfl rfl rfl rfl rfl rfl (by omega) (by omega) (by simp only [inK]; omega) (run_l tabOk ?_); conv => whnf) | (refine wl_mul rfl rfl rfl rfl rfl rfl (by omega) (by omega) (run_l tabOk ?_); conv => whnf) | (refine gs_dt (by first | assumption | omega) ?_; conv => whnf) | (refine gs_df (by first | assumption | omega) ?_; conv => whnf) | (refine gs_t (by assumption) ?_; conv => whnf) | (refine gs_f (by assumption) ?_; conv => whnf) | (refine gs_d (fun hg => ?_) (fun hg => ?_) <;> conv => whnf) | (refine gs_n (fun hg => ?_) (fun hg => ?_) <;> conv => whnf) | (refine gs_nb (fun hg => ?_) (fun hg => ?_) <;> conv => whnf) | (refine gs_b (fun hg => ?_) (fun hg => ?_) <;> conv => whnf) | refine fin1 rfl rfl ?_))
      refine wl_CF fn24 (first := []) (args := []) (caps := [.pointer (some ⟨gn, 0, none⟩)]) (hfr w hid) rfl rfl rfl rfl rfl rfl rfl ?_
      rintro _ w1 ⟨rfl, hO1⟩
      refine ⟨_, rfl, run_l tabOk ?_⟩
      conv => whnf
      (repeat' (first | (refine wl_add rfl rfl rfl rfl rfl rfl (by omega) (by omega) (run_l tabOk ?_); conv => whnf) | (refine wl_sub rfl rfl rfl rfl rfl rfl (by omega) (by omega) (run_l tabOk ?_); conv => whnf) | (refine wl_cvA tabOk rfl rfl rfl (by simp only [inK]; omega) rfl rfl rfl (run_l tabOk ?_); conv => whnf) | (refine wl_cvB tabOk rfl rfl rfl rfl rfl rfl (run_l tabOk ?_); conv => whnf) | (refine wl_rem rfl rfl rfl rfl rfl rfl (by omega) (by omega) (fun r hr hr0 hr1 hr2 => run_l tabOk ?_); conv => whnf) | (refine wl_quo rfl rfl rfl rfl rfl rfl (by omega) (by omega) (by simp only [inK]; omega) (run_l tabOk ?_); conv => whnf) | (refine wl_mul rfl rfl rfl rfl rfl rfl (by omega) (by omega) (run_l tabOk ?_); conv => whnf) | (refine gs_dt (by first | assumption | omega) ?_; conv => whnf) | (refine gs_df (by first | assumption | omega) ?_; conv => whnf) | (refine gs_t (by assumption) ?_; conv => whnf) | (refine gs_f (by assumption) ?_; conv => whnf) | (refine gs_d (fun hg => ?_) (fun hg => ?_) <;> conv => whnf) | (refine gs_n (fun hg => ?_) (fun hg => ?_) <;> conv => whnf) | (refine gs_nb (fun hg => ?_) (fun hg => ?_) <;> conv => whnf) | (refine gs_b (fun hg => ?_) (fun hg => ?_) <;> conv => whnf) | refine fin1 rfl rfl ?_))
      exact ⟨rfl, hO1.mono⟩
  · have h0 : loose = false := by cases loose <;> simp_all
    have h1 : ¬ 1 < W.length := fun h => hc (.inr (.inl h))
    have h2 : ¬ 1 < S.length := fun h => hc (.inr (.inr (.inl h)))
    have h3 : ¬ (W.length = 1 ∧ S.length = 1) := fun h => hc (.inr (.inr (.inr h)))
    have hlF : labelF S W loose f m = labelO S W f m := if_neg hc
    rw [hlF]
    clear hlF hc
    subst h0
    have hmore : ∀ w', Below w.heap.size w w' → OL w w' gn bo m f (no + 1) := fun w' hb => ⟨blk_up hb hg, hid.obj.up hb, Kept.of hb⟩
    cases S with
    | cons x r =>
      cases r with
      | cons y r => exact absurd (by simp) h2
      | nil =>
        obtain ⟨w1, hr1, hB1, hnx⟩ := hS.only setTy
        conv => whnf
        have hW0 : W.length = 0 := by simp at h3; omega
        (repeat' (first | (refine wl_lenM (hS.len setTy) rfl rfl rfl rfl rfl rfl rfl rfl (run_l tabOk ?_); (conv => whnf)) | (refine wl_lenM (hW.len setTy) rfl rfl rfl rfl rfl rfl rfl rfl (run_l tabOk ?_); (conv => whnf)) | (refine wl_add rfl rfl rfl rfl rfl rfl (by omega) (by omega) (run_l tabOk ?_); conv => whnf) | (refine wl_sub rfl rfl rfl rfl rfl rfl (by omega) (by omega) (run_l tabOk ?_); conv => whnf) | (refine wl_cvA tabOk rfl rfl rfl (by simp only [inK]; omega) rfl rfl rfl (run_l tabOk ?_); conv => whnf) | (refine wl_cvB tabOk rfl rfl rfl rfl rfl rfl (run_l tabOk ?_); conv => whnf) | (refine wl_rem rfl rfl rfl rfl rfl rfl (by omega) (by omega) (fun r hr hr0 hr1 hr2 => run_l tabOk ?_); conv => whnf) | (refine wl_quo rfl rfl rfl rfl rfl rfl (by omega) (by omega) (by simp only [inK]; omega) (run_l tabOk ?_); conv => whnf) | (refine wl_mul rfl rfl rfl rfl rfl rfl (by omega) (by omega) (run_l tabOk ?_); conv => whnf) | (refine gs_dt (by first | assumption | omega) ?_; conv => whnf) | (refine gs_df (by first | assumption | omega) ?_; conv => whnf) | (refine gs_t (by assumption) ?_; conv => whnf) | (refine gs_f (by assumption) ?_; conv => whnf) | (refine gs_d (fun hg => ?_) (fun hg => ?_) <;> conv => whnf) | (refine gs_n (fun hg => ?_) (fun hg => ?_) <;> conv => whnf) | (refine gs_nb (fun hg => ?_) (fun hg => ?_) <;> conv => whnf) | (refine gs_b (fun hg => ?_) (fun hg => ?_) <;> conv => whnf) | refine fin1 rfl rfl ?_))
        refine wl_rngM hr1 rfl rfl rfl rfl rfl ?_
        refine run_l tabOk ?_
        conv => whnf
        refine lp_loop tabOk (X := Unit) (fun _ => [(44, .pointer (some ⟨w.heap.size, 0, none⟩))]) (fun _ wr => wr = w1) (fun _ => 0) () ⟨rfl, trivial⟩ rfl ?_
        rintro _ G wr rfl
        conv => whnf
        obtain ⟨w2, v, hr2, hB2, hen⟩ := hnx _
        refine wl_nxM hr2 rfl rfl rfl rfl rfl ?_
        refine run_l tabOk ?_
        conv => whnf
        refine wl_enM hen rfl rfl rfl rfl rfl ?_
        refine run_l tabOk ?_
        conv => whnf
        (repeat' (first | (refine wl_add rfl rfl rfl rfl rfl rfl (by omega) (by omega) (run_l tabOk ?_); conv => whnf) | (refine wl_sub rfl rfl rfl rfl rfl rfl (by omega) (by omega) (run_l tabOk ?_); conv => whnf) | (refine wl_cvA tabOk rfl rfl rfl (by simp only [inK]; omega) rfl rfl rfl (run_l tabOk ?_); conv => whnf) | (refine wl_cvB tabOk rfl rfl rfl rfl rfl rfl (run_l tabOk ?_); conv => whnf) | (refine wl_rem rfl rfl rfl rfl rfl rfl (by omega) (by omega) (fun r hr hr0 hr1 hr2 => run_l tabOk ?_); conv => whnf) | (refine wl_quo rfl rfl rfl rfl rfl rfl (by omega) (by omega) (by simp only [inK]; omega) (run_l tabOk ?_); conv => whnf) | (refine wl_mul rfl rfl rfl rfl rfl rfl (by omega) (by omega) (run_l tabOk ?_); conv => whnf) | (refine gs_dt (by first | assumption | omega) ?_; conv => whnf) | (refine gs_df (by first | assumption | omega) ?_; conv => whnf) | (refine gs_t (by assumption) ?_; conv => whnf) | (refine gs_f (by assumption) ?_; conv => whnf) | (refine gs_d (fun hg => ?_) (fun hg => ?_) <;> conv => whnf) | (refine gs_n (fun hg => ?_) (fun hg => ?_) <;> conv => whnf) | (refine gs_nb (fun hg => ?_) (fun hg => ?_) <;> conv => whnf) | (refine gs_b (fun hg => ?_) (fun hg => ?_) <;> conv => whnf) | refine fin1 rfl rfl ?_))
        exact ⟨rfl, (hmore _ hB2).mono⟩
    | nil =>
      cases W with
      | nil =>
        conv => whnf
        (repeat' (first | (refine wl_lenM (hS.len setTy) rfl rfl rfl rfl rfl rfl rfl rfl (run_l tabOk ?_); (conv => whnf)) | (refine wl_lenM (hW.len setTy) rfl rfl rfl rfl rfl rfl rfl rfl (run_l tabOk ?_); (conv => whnf)) | (refine wl_add rfl rfl rfl rfl rfl rfl (by omega) (by omega) (run_l tabOk ?_); conv => whnf) | (refine wl_sub rfl rfl rfl rfl rfl rfl (by omega) (by omega) (run_l tabOk ?_); conv => whnf) | (refine wl_cvA tabOk rfl rfl rfl (by simp only [inK]; omega) rfl rfl rfl (run_l tabOk ?_); conv => whnf) | (refine wl_cvB tabOk rfl rfl rfl rfl rfl rfl (run_l tabOk ?_); conv => whnf) | (refine wl_rem rfl rfl rfl rfl rfl rfl (by omega) (by omega) (fun r hr hr0 hr1 hr2 => run_l tabOk ?_); conv => whnf) | (refine wl_quo rfl rfl rfl rfl rfl rfl (by omega) (by omega) (by simp only [inK]; omega) (run_l tabOk ?_); conv => whnf) | (refine wl_mul rfl rfl rfl rfl rfl rfl (by omega) (by omega) (run_l tabOk ?_); conv => whnf) | (refine gs_dt (by first | assumption | omega) ?_; conv => whnf) | (refine gs_df (by first | assumption | omega) ?_; conv => whnf) | (refine gs_t (by assumption) ?_; conv => whnf) | (refine gs_f (by assumption) ?_; conv => whnf) | (refine gs_d (fun hg => ?_) (fun hg => ?_) <;> conv => whnf) | (refine gs_n (fun hg => ?_) (fun hg => ?_) <;> conv => whnf) | (refine gs_nb (fun hg => ?_) (fun hg => ?_) <;> conv => whnf) | (refine gs_b (fun hg => ?_) (fun hg => ?_) <;> conv => whnf) | refine fin1 rfl rfl ?_))
        exact ⟨rfl, hid.mono⟩
      | cons o r =>
        cases r with
        | cons y r => exact absurd (by simp) h1
        | nil =>
          have hoi := hWi o (by simp)
          obtain ⟨w1, hr1, hB1, hnx⟩ := hW.only setTy
          conv => whnf
          (repeat' (first | (refine wl_lenM (hS.len setTy) rfl rfl rfl rfl rfl rfl rfl rfl (run_l tabOk ?_); (conv => whnf)) | (refine wl_lenM (hW.len setTy) rfl rfl rfl rfl rfl rfl rfl rfl (run_l tabOk ?_); (conv => whnf)) | (refine wl_add rfl rfl rfl rfl rfl rfl (by omega) (by omega) (run_l tabOk ?_); conv => whnf) | (refine wl_sub rfl rfl rfl rfl rfl rfl (by omega) (by omega) (run_l tabOk ?_); conv => whnf) | (refine wl_cvA tabOk rfl rfl rfl (by simp only [inK]; omega) rfl rfl rfl (run_l tabOk ?_); conv => whnf) | (refine wl_cvB tabOk rfl rfl rfl rfl rfl rfl (run_l tabOk ?_); conv => whnf) | (refine wl_rem rfl rfl rfl rfl rfl rfl (by omega) (by omega) (fun r hr hr0 hr1 hr2 => run_l tabOk ?_); conv => whnf) | (refine wl_quo rfl rfl rfl rfl rfl rfl (by omega) (by omega) (by simp only [inK]; omega) (run_l tabOk ?_); conv => whnf) | (refine wl_mul rfl rfl rfl rfl rfl rfl (by omega) (by omega) (run_l tabOk ?_); conv => whnf) | (refine gs_dt (by first | assumption | omega) ?_; conv => whnf) | (refine gs_df (by first | assumption | omega) ?_; conv => whnf) | (refine gs_t (by assumption) ?_; conv => whnf) | (refine gs_f (by assumption) ?_; conv => whnf) | (refine gs_d (fun hg => ?_) (fun hg => ?_) <;> conv => whnf) | (refine gs_n (fun hg => ?_) (fun hg => ?_) <;> conv => whnf) | (refine gs_nb (fun hg => ?_) (fun hg => ?_) <;> conv => whnf) | (refine gs_b (fun hg => ?_) (fun hg => ?_) <;> conv => whnf) | refine fin1 rfl rfl ?_))
          refine wl_rngM hr1 rfl rfl rfl rfl rfl ?_
          refine run_l tabOk ?_
          conv => whnf
          refine lp_loop tabOk (X := Unit) (fun _ => [(3, .map (some bo)), (4, freshV gn), (55, .pointer (some ⟨w.heap.size, 0, none⟩))]) (fun _ wr => wr = w1) (fun _ => 0) () ⟨rfl, rfl, rfl, trivial⟩ rfl ?_
          rintro _ G wr rfl
          conv => whnf
          obtain ⟨w2, v, hr2, hB2, hen⟩ := hnx _
          have hO2 := hmore w2 hB2
          obtain ⟨vl, hlk, hvl⟩ := hO2.obj.look numTy (zeroI w2) hoi
          refine wl_nxM hr2 rfl rfl rfl rfl rfl ?_
          refine run_l tabOk ?_
          conv => whnf
          refine wl_enM hen rfl rfl rfl rfl rfl ?_
          refine run_l tabOk ?_
          conv => whnf
          refine wl_lkM hlk rfl rfl rfl rfl rfl rfl ?_
          refine run_l tabOk ?_
          conv => whnf
          cases hf : f o with
          | some q =>
            rw [hf] at hvl
            have hlo : labelO [] [o] f m = ((q : Int), m, f) := by unfold labelO; simp [hf]
            rw [hlo, hvl q rfl]
            conv => whnf
            (repeat' (first | (refine wl_add rfl rfl rfl rfl rfl rfl (by omega) (by omega) (run_l tabOk ?_); conv => whnf) | (refine wl_sub rfl rfl rfl rfl rfl rfl (by omega) (by omega) (run_l tabOk ?_); conv => whnf) | (refine wl_cvA tabOk rfl rfl rfl (by simp only [inK]; omega) rfl rfl rfl (run_l tabOk ?_); conv => whnf) | (refine wl_cvB tabOk rfl rfl rfl rfl rfl rfl (run_l tabOk ?_); conv => whnf) | (refine wl_rem rfl rfl rfl rfl rfl rfl (by omega) (by omega) (fun r hr hr0 hr1 hr2 => run_l tabOk ?_); conv => whnf) | (refine wl_quo rfl rfl rfl rfl rfl rfl (by omega) (by omega) (by simp only [inK]; omega) (run_l tabOk ?_); conv => whnf) | (refine wl_mul rfl rfl rfl rfl rfl rfl (by omega) (by omega) (run_l tabOk ?_); conv => whnf) | (refine gs_dt (by first | assumption | omega) ?_; conv => whnf) | (refine gs_df (by first | assumption | omega) ?_; conv => whnf) | (refine gs_t (by assumption) ?_; conv => whnf) | (refine gs_f (by assumption) ?_; conv => whnf) | (refine gs_d (fun hg => ?_) (fun hg => ?_) <;> conv => whnf) | (refine gs_n (fun hg => ?_) (fun hg => ?_) <;> conv => whnf) | (refine gs_nb (fun hg => ?_) (fun hg => ?_) <;> conv => whnf) | (refine gs_b (fun hg => ?_) (fun hg => ?_) <;> conv => whnf) | refine fin1 rfl rfl ?_))
            exact ⟨rfl, hO2.mono⟩
          | none =>
            have hlo : labelO [] [o] f m = ((m : Int), m + 1, putN f o m) := by unfold labelO; simp [hf]
            rw [hlo]
            conv => whnf
            refine wl_CF fn24 (first := []) (args := []) (caps := [.pointer (some ⟨gn, 0, none⟩)]) (hfr w2 hO2) rfl rfl rfl rfl rfl rfl rfl ?_
            rintro _ w3 ⟨rfl, hO3⟩
            refine ⟨_, rfl, run_l tabOk ?_⟩
            conv => whnf
            refine wl_mu (hO3.obj.put numTy (x := o) (m := m) (by unfold maxLen; omega) hoi ⟨by omega, by omega⟩) rfl rfl rfl rfl rfl rfl ?_
            rintro w4 ⟨hN4, hg4⟩
            refine run_l tabOk ?_
            conv => whnf
            (repeat' (first | (refine wl_add rfl rfl rfl rfl rfl rfl (by omega) (by omega) (run_l tabOk ?_); conv => whnf) | (refine wl_sub rfl rfl rfl rfl rfl rfl (by omega) (by omega) (run_l tabOk ?_); conv => whnf) | (refine wl_cvA tabOk rfl rfl rfl (by simp only [inK]; omega) rfl rfl rfl (run_l tabOk ?_); conv => whnf) | (refine wl_cvB tabOk rfl rfl rfl rfl rfl rfl (run_l tabOk ?_); conv => whnf) | (refine wl_rem rfl rfl rfl rfl rfl rfl (by omega) (by omega) (fun r hr hr0 hr1 hr2 => run_l tabOk ?_); conv => whnf) | (refine wl_quo rfl rfl rfl rfl rfl rfl (by omega) (by omega) (by simp only [inK]; omega) (run_l tabOk ?_); conv => whnf) | (refine wl_mul rfl rfl rfl rfl rfl rfl (by omega) (by omega) (run_l tabOk ?_); conv => whnf) | (refine gs_dt (by first | assumption | omega) ?_; conv => whnf) | (refine gs_df (by first | assumption | omega) ?_; conv => whnf) | (refine gs_t (by assumption) ?_; conv => whnf) | (refine gs_f (by assumption) ?_; conv => whnf) | (refine gs_d (fun hg => ?_) (fun hg => ?_) <;> conv => whnf) | (refine gs_n (fun hg => ?_) (fun hg => ?_) <;> conv => whnf) | (refine gs_nb (fun hg => ?_) (fun hg => ?_) <;> conv => whnf) | (refine gs_b (fun hg => ?_) (fun hg => ?_) <;> conv => whnf) | refine fin1 rfl rfl ?_))
            exact ⟨rfl, ⟨(hg4.block gn (blk_lt hO3.cell) (by intro e; injection e with e; exact hne e.symm)).trans hO3.cell, hN4, Kept.grown hO3.kept hg4 (fun g e => .inl (by injection e with e; simp [e]))⟩⟩
end Go.Proofs.Ytomldckplkecbaa
