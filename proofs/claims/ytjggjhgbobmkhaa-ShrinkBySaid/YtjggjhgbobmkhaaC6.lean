/- Several texts of one claim in one file: PO03 EP EX4 EY QR20 KS16 SRT. -/
import Derived.Test.YtjggjhgbobmkhaaC5
import Derived.Lib.Overlaps
import Derived.Laws.CopyRow
import Derived.Test.YtjggjhgbobmkhaaC1
import Derived.Shelf.Sort.Plain
import Derived.Shelf.Slices.In.SortNone
import Derived.Sort.OwnSortedInts
/- Plain: how many bits a word has, as math/bits counts them; the bytes of a set's key. -/
namespace Go.Proofs.Ytjggjhgbobmkhaa
set_option linter.unusedVariables false
set_option linter.unusedSimpArgs false
def pc : Nat → Nat → Nat
  | 0, _ => 0
  | f + 1, x => x % 2 + pc f (x / 2)
theorem filt_pc : ∀ (n w : Nat), ((List.range n).filter fun i => w.testBit i).length = pc n w
  | 0, w => rfl
  | n + 1, w => by
    have h := filt_pc n (w / 2)
    have e : (((List.range n).map Nat.succ).filter fun i => w.testBit i).length = pc n (w / 2) := by
      rw [List.filter_map, List.length_map, ← h]
      congr 1
      refine List.filter_congr fun x _ => ?_
      simp [Nat.testBit_succ]
    rw [List.range_succ_eq_map]
    show _ = w % 2 + pc n (w / 2)
    by_cases h0 : w.testBit 0 = true
    · rw [List.filter_cons_of_pos h0, List.length_cons, e]
      have : w % 2 = 1 := by simpa [Nat.testBit_zero] using h0
      omega
    · rw [List.filter_cons_of_neg h0, e]
      have : w % 2 ≠ 1 := by simpa [Nat.testBit_zero] using h0
      omega
theorem bitsOf_pc (w : Nat) : (bitsOf w).length = pc 64 w := filt_pc 64 w
theorem pc_8 (m x : Nat) : pc (m + 8) x = pc 8 (x % 256) + pc m (x / 256) := by
  simp only [pc]
  have e : x / 2 / 2 / 2 / 2 / 2 / 2 / 2 / 2 = x / 256 := by omega
  rw [e]
  omega
/-! ### Masks, byte by byte -/
def rep (m : Nat) : Nat → Nat
  | 0 => 0
  | n + 1 => 256 * rep m n + m
theorem mask8 (k a b m M : Nat) (ha : a < 256) (hm : m < 256) (hk : k ≤ 8) (hmk : m < 2 ^ (8 - k)) : (256 * b + a) >>> k &&& (256 * M + m) = 256 * (b >>> k &&& M) + (a >>> k &&& m) := by
  have e8 : (256 : Nat) = 2 ^ 8 := rfl
  have hA : a >>> k &&& m < 2 ^ 8 := Nat.lt_of_le_of_lt Nat.and_le_right hm
  refine Nat.eq_of_testBit_eq fun j => ?_
  rw [e8, Nat.testBit_and, Nat.testBit_shiftRight, Nat.testBit_two_pow_mul_add _ ha, Nat.testBit_two_pow_mul_add _ hm, Nat.testBit_two_pow_mul_add _ hA, Nat.testBit_and, Nat.testBit_and, Nat.testBit_shiftRight, Nat.testBit_shiftRight]
  by_cases h : j < 8
  · rw [if_pos h, if_pos h]
    by_cases h2 : k + j < 8
    · rw [if_pos h2]
    · have : m.testBit j = false := Nat.testBit_lt_two_pow (Nat.lt_of_lt_of_le hmk (Nat.pow_le_pow_right (by omega) (by omega)))
      rw [this]; simp
  · rw [if_neg h, if_neg h, if_neg (by omega)]
    congr 2
    omega
def F1 (m M x : Nat) : Nat := (x >>> m &&& M) + (x &&& M)
theorem F1_byte (k a b m M : Nat) (ha : a < 256) (hm : m < 256) (hk : k ≤ 8) (hmk : m < 2 ^ (8 - k)) : F1 k (256 * M + m) (256 * b + a) = 256 * F1 k M b + F1 k m a := by
  have h0 := mask8 0 a b m M ha hm (by omega) hm
  simp only [Nat.shiftRight_zero] at h0
  unfold F1
  rw [mask8 k a b m M ha hm hk hmk, h0]
  omega
def F3 (M x : Nat) : Nat := (x >>> 4 + x) &&& M
theorem F3_byte (a b M : Nat) (ha : a < 256) (h1 : a % 16 + a / 16 ≤ 15) (h2 : b % 16 + a / 16 ≤ 15) : F3 (256 * M + 15) (256 * b + a) = 256 * F3 M b + (a % 16 + a / 16) := by
  have e : (256 * b + a) >>> 4 + (256 * b + a) = 256 * (b >>> 4 + b) + (16 * (b % 16 + a / 16) + (a % 16 + a / 16)) := by
    simp only [Nat.shiftRight_eq_div_pow]
    omega
  have h0 := mask8 0 (16 * (b % 16 + a / 16) + (a % 16 + a / 16)) (b >>> 4 + b) 15 M (by omega) (by omega) (by omega) (by omega)
  simp only [Nat.shiftRight_zero] at h0
  unfold F3
  rw [e, h0]
  have : (16 * (b % 16 + a / 16) + (a % 16 + a / 16)) &&& 15 = a % 16 + a / 16 := by
    rw [show (15 : Nat) = 2 ^ 4 - 1 from rfl, Nat.and_two_pow_sub_one_eq_mod]
    omega
  rw [this]
def F2 (y : Nat) : Nat := F1 2 51 (F1 1 85 y)
theorem byte_all : ∀ y, y < 256 → F1 1 85 y < 256 ∧ F2 y < 256 ∧ F2 y % 16 ≤ 4 ∧ F2 y / 16 ≤ 4 ∧ F2 y % 16 + F2 y / 16 = pc 8 y := by decide +kernel
def pcs : Nat → Nat → Nat
  | 0, _ => 0
  | n + 1, x => 256 * pcs n (x / 256) + pc 8 (x % 256)
theorem swar : ∀ n x, x < 256 ^ n → F3 (rep 15 n) (F1 2 (rep 51 n) (F1 1 (rep 85 n) x)) = pcs n x ∧ F1 2 (rep 51 n) (F1 1 (rep 85 n) x) % 16 ≤ 4
  | 0, x, h => by simp [F3, F1, rep, pcs]
  | n + 1, x, h => by
    obtain ⟨h1, h2⟩ := swar n (x / 256) (by rw [Nat.pow_succ] at h; omega)
    have hx : x = 256 * (x / 256) + x % 256 := by omega
    have hb := byte_all (x % 256) (Nat.mod_lt _ (by omega))
    have e1 : F1 1 (rep 85 (n + 1)) x = 256 * F1 1 (rep 85 n) (x / 256) + F1 1 85 (x % 256) := by
      conv => lhs; rw [hx]
      exact F1_byte 1 _ _ 85 _ (Nat.mod_lt _ (by omega)) (by omega) (by omega) (by decide)
    have e2 : F1 2 (rep 51 (n + 1)) (F1 1 (rep 85 (n + 1)) x) = 256 * F1 2 (rep 51 n) (F1 1 (rep 85 n) (x / 256)) + F2 (x % 256) := by
      rw [e1]
      exact F1_byte 2 _ _ 51 _ hb.1 (by omega) (by omega) (by decide)
    rw [e2]
    refine ⟨?_, by omega⟩
    have e3 := F3_byte (F2 (x % 256)) (F1 2 (rep 51 n) (F1 1 (rep 85 n) (x / 256))) (rep 15 n) hb.2.1 (by omega) (by omega)
    show F3 (256 * rep 15 n + 15) _ = 256 * pcs n (x / 256) + pc 8 (x % 256)
    rw [e3, h1, hb.2.2.2.2]
theorem pc8_le : ∀ y, y < 256 → pc 8 y ≤ 8 := by decide +kernel
/-- The sums at the end. -/
theorem sh1 {x y z p q : Nat} (e : x = 256 * y + p) (f : y = 256 * z + q) : x + y = 256 * (y + z) + (p + q) := by omega
theorem bd1 {x y p B C : Nat} (e : x = 256 * y + p) (h : p ≤ 8) (hy : y ≤ B) (hC : 256 * B + 8 = C) : x ≤ C := by omega
theorem dv1 {x y p : Nat} (e : x = 256 * y + p) (h : p ≤ 8) : x / 256 = y := by omega
theorem dv2 {x y z p q : Nat} (e : x = 256 * y + p) (f : y = 256 * z + q) (h : p ≤ 16) (k : q ≤ 16) : x / 65536 = z := by omega
theorem sh2 {a b c d p q : Nat} (e : a = 256 * b + p) (f : c = 256 * d + q) : a + c = 256 * (b + d) + (p + q) := by omega
theorem dv4 {a b c d e p q r s : Nat} (h1 : a = 256 * b + p) (h2 : b = 256 * c + q) (h3 : c = 256 * d + r) (h4 : d = 256 * e + s) (k1 : p ≤ 32) (k2 : q ≤ 32) (k3 : r ≤ 32) (k4 : s ≤ 32) : a / 4294967296 = e := by omega
theorem md4 {a b c d p q : Nat} (h1 : a = 256 * b + p) (h2 : c = 256 * d + q) (k1 : p ≤ 32) (k2 : q ≤ 32) : (a + c) % 128 = p + q := by omega
theorem bg1 {x a b c : Nat} (h1 : a ≤ 2260630401189896) (h2 : b ≤ 8830587504648) (h3 : c ≤ 34494482440) (h : x ≤ 578721382704613384) : x + a + (b + c) < 9223372036854775808 := by omega
theorem bg2 {x a b c d e f g : Nat} (h1 : a ≤ 2260630401189896) (h2 : b ≤ 8830587504648) (h3 : c ≤ 34494482440) (h4 : d ≤ 134744072) (h5 : e ≤ 526344) (h6 : f ≤ 2056) (h7 : g ≤ 8) (h : x ≤ 578721382704613384) : x + a + (b + c) + (d + e + (f + g)) < 9223372036854775808 := by omega
theorem sums {p0 p1 p2 p3 p4 p5 p6 p7 x y1 y2 y3 y4 y5 y6 y7 : Nat} (e0 : x = 256 * y1 + p0) (e1 : y1 = 256 * y2 + p1) (e2 : y2 = 256 * y3 + p2) (e3 : y3 = 256 * y4 + p3) (e4 : y4 = 256 * y5 + p4) (e5 : y5 = 256 * y6 + p5) (e6 : y6 = 256 * y7 + p6) (e7 : y7 = p7)
    (h0 : p0 ≤ 8) (h1 : p1 ≤ 8) (h2 : p2 ≤ 8) (h3 : p3 ≤ 8) (h4 : p4 ≤ 8) (h5 : p5 ≤ 8) (h6 : p6 ≤ 8) (h7 : p7 ≤ 8) :
    ∃ x4 x5 x6, x4 = x + x / 256 ∧ x5 = x4 + x4 / 65536 ∧ x6 = x5 + x5 / 4294967296 ∧ x4 < 9223372036854775808 ∧ x5 < 9223372036854775808 ∧ x6 < 9223372036854775808 ∧ x6 % 128 = p0 + p1 + p2 + p3 + p4 + p5 + p6 + p7 := by
  have b7 : y7 ≤ 8 := by rw [e7]; exact h7
  have e7 : y7 = 256 * 0 + p7 := by rw [e7]; simp
  have b6 := bd1 e6 h6 b7 rfl
  have b5 := bd1 e5 h5 b6 rfl
  have b4 := bd1 e4 h4 b5 rfl
  have b3 := bd1 e3 h3 b4 rfl
  have b2 := bd1 e2 h2 b3 rfl
  have b1 := bd1 e1 h1 b2 rfl
  have b0 := bd1 e0 h0 b1 rfl
  have f1 : x / 256 = y1 := dv1 e0 h0
  have k0 := sh1 e0 e1
  have k1 := sh1 e1 e2
  have k2 := sh1 e2 e3
  have k3 := sh1 e3 e4
  have k4 := sh1 e4 e5
  have k5 := sh1 e5 e6
  have k6 := sh1 e6 e7
  have q : ∀ {a b : Nat}, a ≤ 8 → b ≤ 8 → a + b ≤ 16 := fun h k => Nat.add_le_add h k
  have q2 : ∀ {a b : Nat}, a ≤ 16 → b ≤ 16 → a + b ≤ 32 := fun h k => Nat.add_le_add h k
  have f2 := dv2 k0 k1 (q h0 h1) (q h1 h2)
  have n0 := sh2 k0 k2
  have n1 := sh2 k1 k3
  have n2 := sh2 k2 k4
  have n3 := sh2 k3 k5
  have n4 := sh2 k4 k6
  have f3 := dv4 n0 n1 n2 n3 (q2 (q h0 h1) (q h2 h3)) (q2 (q h1 h2) (q h3 h4)) (q2 (q h2 h3) (q h4 h5)) (q2 (q h3 h4) (q h5 h6))
  have hz : x + y1 < 9223372036854775808 := Nat.lt_of_le_of_lt (Nat.add_le_add b0 b1) (by decide)
  have ym : y1 ≤ 2260630401189896 ∧ y2 ≤ 8830587504648 ∧ y3 ≤ 34494482440 ∧ y4 ≤ 134744072 ∧ y5 ≤ 526344 ∧ x ≤ 578721382704613384 := ⟨b1, b2, b3, b4, b5, b0⟩
  refine ⟨x + y1, x + y1 + (y2 + y3), x + y1 + (y2 + y3) + (y4 + y5 + (y6 + y7)), by rw [f1], by rw [f2], by rw [f3], hz, ?_, ?_, ?_⟩
  · exact bg1 ym.1 ym.2.1 ym.2.2.1 ym.2.2.2.2.2
  · exact bg2 ym.1 ym.2.1 ym.2.2.1 ym.2.2.2.1 ym.2.2.2.2.1 b6 b7 ym.2.2.2.2.2
  · rw [md4 n0 n4 (q2 (q h0 h1) (q h2 h3)) (q2 (q h4 h5) (q h6 h7))]
    simp only [Nat.add_assoc]
theorem reps : rep 85 8 = 6148914691236517205 ∧ rep 51 8 = 3689348814741910323 ∧ rep 15 8 = 1085102592571150095 := by decide +kernel
/-- As the library counts. -/
theorem pop64 {x : Nat} (h : x < 18446744073709551616) : ∃ x1 x2 x3 x4 x5 x6, x1 = (x >>> 1 &&& 6148914691236517205) + (x &&& 6148914691236517205) ∧ x2 = (x1 >>> 2 &&& 3689348814741910323) + (x1 &&& 3689348814741910323) ∧
    x3 = (x2 >>> 4 + x2) &&& 1085102592571150095 ∧ x4 = x3 + x3 / 256 ∧ x5 = x4 + x4 / 65536 ∧ x6 = x5 + x5 / 4294967296 ∧ x1 < 18446744073709551616 ∧ x2 < 9223372036854775808 ∧ x2 >>> 4 + x2 < 18446744073709551616 ∧ x4 < 9223372036854775808 ∧ x5 < 9223372036854775808 ∧ x6 < 9223372036854775808 ∧ x6 % 128 = (bitsOf x).length := by
  obtain ⟨hs, _⟩ := swar 8 x h
  obtain ⟨r1, r2, r3⟩ := reps
  rw [r1, r2, r3] at hs
  have b0 := pc8_le (x % 256) (Nat.mod_lt _ (by omega))
  have b1 := pc8_le (x / 256 % 256) (Nat.mod_lt _ (by omega))
  have b2 := pc8_le (x / 256 / 256 % 256) (Nat.mod_lt _ (by omega))
  have b3 := pc8_le (x / 256 / 256 / 256 % 256) (Nat.mod_lt _ (by omega))
  have b4 := pc8_le (x / 256 / 256 / 256 / 256 % 256) (Nat.mod_lt _ (by omega))
  have b5 := pc8_le (x / 256 / 256 / 256 / 256 / 256 % 256) (Nat.mod_lt _ (by omega))
  have b6 := pc8_le (x / 256 / 256 / 256 / 256 / 256 / 256 % 256) (Nat.mod_lt _ (by omega))
  have b7 := pc8_le (x / 256 / 256 / 256 / 256 / 256 / 256 / 256 % 256) (Nat.mod_lt _ (by omega))
  have hl : (bitsOf x).length = pc 8 (x % 256) + pc 8 (x / 256 % 256) + pc 8 (x / 256 / 256 % 256) + pc 8 (x / 256 / 256 / 256 % 256) + pc 8 (x / 256 / 256 / 256 / 256 % 256) + pc 8 (x / 256 / 256 / 256 / 256 / 256 % 256) + pc 8 (x / 256 / 256 / 256 / 256 / 256 / 256 % 256) + pc 8 (x / 256 / 256 / 256 / 256 / 256 / 256 / 256 % 256) := by
    have e1 : pc 64 x = pc 8 (x % 256) + pc 56 (x / 256) := pc_8 56 _
    have e2 : pc 56 (x / 256) = pc 8 (x / 256 % 256) + pc 48 (x / 256 / 256) := pc_8 48 _
    have e3 : pc 48 (x / 256 / 256) = pc 8 (x / 256 / 256 % 256) + pc 40 (x / 256 / 256 / 256) := pc_8 40 _
    have e4 : pc 40 (x / 256 / 256 / 256) = pc 8 (x / 256 / 256 / 256 % 256) + pc 32 (x / 256 / 256 / 256 / 256) := pc_8 32 _
    have e5 : pc 32 (x / 256 / 256 / 256 / 256) = pc 8 (x / 256 / 256 / 256 / 256 % 256) + pc 24 (x / 256 / 256 / 256 / 256 / 256) := pc_8 24 _
    have e6 : pc 24 (x / 256 / 256 / 256 / 256 / 256) = pc 8 (x / 256 / 256 / 256 / 256 / 256 % 256) + pc 16 (x / 256 / 256 / 256 / 256 / 256 / 256) := pc_8 16 _
    have e7 : pc 16 (x / 256 / 256 / 256 / 256 / 256 / 256) = pc 8 (x / 256 / 256 / 256 / 256 / 256 / 256 % 256) + pc 8 (x / 256 / 256 / 256 / 256 / 256 / 256 / 256) := pc_8 8 _
    have e8 : pc 8 (x / 256 / 256 / 256 / 256 / 256 / 256 / 256) = pc 8 (x / 256 / 256 / 256 / 256 / 256 / 256 / 256 % 256) := pc_8 0 _
    rw [bitsOf_pc, e1, e2, e3, e4, e5, e6, e7, e8]
    simp only [Nat.add_assoc]
  have q : ∀ n y, pcs (n + 1) y = 256 * pcs n (y / 256) + pc 8 (y % 256) := fun _ _ => rfl
  obtain ⟨x4, x5, x6, e4, e5, e6, l4, l5, l6, e7⟩ := sums (q 7 x) (q 6 _) (q 5 _) (q 4 _) (q 3 _) (q 2 _) (q 1 _) (by rw [q]; simp only [pcs, Nat.mul_zero, Nat.zero_add]) b0 b1 b2 b3 b4 b5 b6 b7
  have m1 : F1 1 6148914691236517205 x ≤ 6148914691236517205 + 6148914691236517205 := Nat.add_le_add Nat.and_le_right Nat.and_le_right
  have m2 : ∀ y, F1 2 3689348814741910323 y ≤ 3689348814741910323 + 3689348814741910323 := fun y => Nat.add_le_add Nat.and_le_right Nat.and_le_right
  have m3 := m2 (F1 1 6148914691236517205 x)
  refine ⟨_, _, pcs 8 x, x4, x5, x6, rfl, rfl, hs.symm, e4, e5, e6, ?_, ?_, ?_, l4, l5, l6, e7.trans hl.symm⟩
  · show F1 1 6148914691236517205 x < _; omega
  · show F1 2 3689348814741910323 (F1 1 6148914691236517205 x) < _; omega
  · show F1 2 3689348814741910323 (F1 1 6148914691236517205 x) >>> 4 + F1 2 3689348814741910323 (F1 1 6148914691236517205 x) < _
    rw [Nat.shiftRight_eq_div_pow]
    omega
/-! ### The key -/
def keyOf (b : Blk) : List Nat := (List.range 4).map (fun i => b.a.toNat / 2 ^ (8 * i) % 256) ++ (List.range 8).map fun i => b.w / 2 ^ (8 * i) % 256
def keyB (bs : List Blk) : List Nat := bs.flatMap keyOf
theorem keyOf_len (b : Blk) : (keyOf b).length = 12 := by simp [keyOf]
theorem keyOf_inj {x y : Blk} (hx : 0 ≤ x.a ∧ x.a < 4294967296 ∧ x.w < 18446744073709551616) (hy : 0 ≤ y.a ∧ y.a < 4294967296 ∧ y.w < 18446744073709551616) (h : keyOf x = keyOf y) : x = y := by
  have := List.append_inj h (by simp)
  obtain ⟨h1, h2⟩ := this
  simp only [List.range_succ, List.range_zero, List.map_append, List.map_nil, List.map_cons, List.nil_append, List.cons_append, List.cons.injEq, List.append_assoc, and_true] at h1 h2
  cases x; cases y
  simp only [Blk.mk.injEq] at *
  omega
theorem keyB_inj : ∀ {xs ys : List Blk}, (∀ b ∈ xs, 0 ≤ b.a ∧ b.a < 4294967296 ∧ b.w < 18446744073709551616) → (∀ b ∈ ys, 0 ≤ b.a ∧ b.a < 4294967296 ∧ b.w < 18446744073709551616) → keyB xs = keyB ys → xs = ys
  | [], [], _, _, _ => rfl
  | [], y :: ys, _, _, h => by
    have h : [] = keyOf y ++ keyB ys := h
    have := congrArg List.length h
    rw [List.length_append, keyOf_len] at this
    simp only [List.length_nil] at this
    omega
  | x :: xs, [], _, _, h => by
    have h : keyOf x ++ keyB xs = [] := h
    have := congrArg List.length h
    rw [List.length_append, keyOf_len] at this
    simp only [List.length_nil] at this
    omega
  | x :: xs, y :: ys, hx, hy, h => by
    have h : keyOf x ++ keyB xs = keyOf y ++ keyB ys := h
    obtain ⟨h1, h2⟩ := List.append_inj h (by rw [keyOf_len, keyOf_len])
    rw [keyOf_inj (hx x (by simp)) (hy y (by simp)) h1, keyB_inj (fun b hb => hx b (by simp [hb])) (fun b hb => hy b (by simp [hb])) h2]
end Go.Proofs.Ytjggjhgbobmkhaa

/- Sets of numbers in memory: rows of blocks; what leaves all but some blocks as it was; steps that their functions need. -/
namespace Go.Proofs.Ytjggjhgbobmkhaa
open Go.RowKit
set_option linter.unusedVariables false
set_option linter.unusedSimpArgs false
/-- All that was there is as it was, but for the blocks of rb. -/
structure Kept (rb : List Nat) (w w' : World) : Prop where
  os : w'.os = w.os
  tape : w'.tape = w.tape
  output : w'.output = w.output
  size : w.heap.size ≤ w'.heap.size
  block : ∀ k, k < w.heap.size → k ∉ rb → w'.heap[k]? = w.heap[k]?
section
variable {rb rb2 : List Nat} {w w1 w2 : World}
theorem Kept.of (h : Below w.heap.size w w1) : Kept rb w w1 := ⟨h.os, h.tape, h.output, h.size, fun k hk _ => h.block k hk⟩
theorem Kept.refl (rb : List Nat) (w : World) : Kept rb w w := Kept.of (Below.refl _ _)
/-- One step more; what it writes that is new doesn't count. -/
theorem Kept.trans (h : Kept rb w w1) (k : Kept rb2 w1 w2) (hs : ∀ b ∈ rb2, b ∈ rb ∨ w.heap.size ≤ b) : Kept rb w w2 :=
  ⟨k.os.trans h.os, k.tape.trans h.tape, k.output.trans h.output, Nat.le_trans h.size k.size, fun i hi hn => (k.block i (Nat.lt_of_lt_of_le hi h.size) (fun hm => (hs i hm).elim hn (fun h3 => by omega))).trans (h.block i hi hn)⟩
theorem Kept.up (h : Kept rb w w1) (k : Below w1.heap.size w1 w2) : Kept rb w w2 := h.trans (Kept.of (rb := []) k) (by simp)
theorem Kept.put (h : Kept rb w w1) {g : Nat} {cs : List Value} {t : TypeId} (hp : Put w1 w2 g cs t) (hg : g ∈ rb ∨ w.heap.size ≤ g) : Kept rb w w2 :=
  h.trans (rb2 := [g]) ⟨hp.grown.os, hp.grown.tape, hp.grown.output, hp.grown.size, fun k hk hn => hp.grown.block k hk (by simp; intro e; subst e; exact hn (by simp))⟩ (by simpa using hg)
theorem Kept.grown {row : Option Nat} (h : Kept rb w w1) (hg : w1.grownBy w2 row) (hr : ∀ g, row = some g → g ∈ rb ∨ w.heap.size ≤ g) : Kept rb w w2 :=
  h.trans (rb2 := row.toList) ⟨hg.os, hg.tape, hg.output, hg.size, fun k hk hn => hg.block k hk (fun e => hn (by simp [← e]))⟩ (fun b hb => hr b (by simpa using hb))
theorem Kept.blk (h : Kept rb w w1) {g : Nat} {o : Obj} (hb : w.heap[g]? = some o) (hn : g ∉ rb) : w1.heap[g]? = some o := (h.block g (blk_lt hb) hn).trans hb
theorem Kept.below {w0 : World} {B : Nat} (h : Kept rb w w1) (hb : Below B w0 w) (hB : B ≤ w.heap.size) (hr : ∀ k ∈ rb, B ≤ k) : Below B w0 w1 :=
  hb.trans ⟨h.os, h.tape, h.output, h.size, fun k hk => h.block k (Nat.lt_of_lt_of_le hk hB) fun hm => by have := hr k hm; omega⟩
theorem Kept.more (h : Kept rb w w1) (hs : ∀ b ∈ rb, b ∈ rb2) : Kept rb2 w w1 := ⟨h.os, h.tape, h.output, h.size, fun k hk hn => h.block k hk (fun hm => hn (hs k hm))⟩
end
/-! ### Blocks of numbers -/
def dBlk : Dec Blk := fun _ cs b => cs = [.int .i64 b.a, .int .u64 (b.w : Int)]
theorem stays_Blk : Stays dBlk := ⟨fun _ _ _ _ _ h => h⟩
def blkC (b : Blk) : List Value := [.int .i64 b.a, .int .u64 (b.w : Int)]
def flatB (bs : List Blk) : List Value := bs.flatMap blkC
theorem flatB_len (bs : List Blk) : (flatB bs).length = bs.length * 2 := by
  induction bs with
  | nil => rfl
  | cons b bs ih =>
    have : (flatB (b :: bs)).length = 2 + (flatB bs).length := by simp [flatB, blkC]; omega
    rw [this, ih, List.length_cons]; omega
theorem flatB_app (xs ys : List Blk) : flatB (xs ++ ys) = flatB xs ++ flatB ys := by simp [flatB]
theorem flatB_one (b : Blk) : flatB [b] = blkC b := by simp [flatB]
theorem flatB_cons (b : Blk) (bs : List Blk) : flatB (b :: bs) = blkC b ++ flatB bs := by simp [flatB]
theorem flatB_take (bs : List Blk) (i : Nat) (hi : i ≤ bs.length) : (flatB bs).take (i * 2) = flatB (bs.take i) := by
  conv => lhs; rw [← List.take_append_drop i bs, flatB_app]
  rw [List.take_append_of_le_length (by rw [flatB_len, List.length_take]; omega), List.take_of_length_le (by rw [flatB_len, List.length_take]; omega)]
theorem flatB_drop (bs : List Blk) (i : Nat) (hi : i ≤ bs.length) : (flatB bs).drop (i * 2) = flatB (bs.drop i) := by
  conv => lhs; rw [← List.take_append_drop i bs, flatB_app]
  have e : (flatB (bs.take i)).length = i * 2 := by rw [flatB_len]; simp; omega
  rw [← e, List.drop_left]
theorem flatB_at (bs : List Blk) (i : Nat) (hi : i < bs.length) : ((flatB bs).drop (i * 2)).take 2 = blkC bs[i]! := by
  rw [flatB_drop bs i (by omega), getElem!_pos bs i hi, List.drop_eq_getElem_cons hi, flatB_cons]
  rfl
theorem elemsB (w : World) (bs : List Blk) : Elems 2 dBlk w (flatB bs) bs := ⟨flatB_len bs, fun i hi => flatB_at bs i hi⟩
theorem oneB (bs : List Blk) : ∀ u ∈ flatB bs, u.oneCell' = true := by
  intro u hu
  obtain ⟨b, _, hb⟩ := List.mem_flatMap.1 hu
  simp [blkC] at hb
  rcases hb with rfl | rfl <;> rfl
abbrev ownsB (w : World) (base : Nat) (V : Value) (bs : List Blk) : Prop := w.ownsRow base 82 2 V bs.length (flatB bs)
theorem ownsB.row {w : World} {base : Nat} {V : Value} {bs : List Blk} (h : ownsB w base V bs) : ∃ A c, V = .slice A bs.length c ∧ bs.length ≤ c ∧ RowR 2 dBlk w A bs := row_of_own h rfl (elemsB w bs)
theorem ownsB.rowAt {w : World} {base : Nat} {A : Option Addr} {n c : Nat} {bs : List Blk} (h : ownsB w base (.slice A n c) bs) : n = bs.length ∧ bs.length ≤ c ∧ RowR 2 dBlk w A bs := by
  obtain ⟨A', c', e1, h1, h2⟩ := h.row
  injection e1 with e1 e2 e3
  subst e1 e2 e3
  exact ⟨rfl, h1, h2⟩
theorem ownsB.keep {w w1 : World} {base : Nat} {V : Value} {bs : List Blk} (h : ownsB w base V bs) (hb : ∀ b, V.ownBlock = some b → w1.heap[b]? = w.heap[b]?) : ownsB w1 base V bs := by
  refine ⟨h.1, h.2.imp id ?_⟩
  rintro ⟨g, cap, cur, h4, h5, h6, h7⟩
  refine ⟨g, cap, cur, h4, h5, ?_, h7⟩
  rw [hb g (by rw [h4]; rfl)]
  exact h6
theorem ownsB.lower {w : World} {base b' : Nat} {V : Value} {bs : List Blk} (h : ownsB w base V bs) (hb : b' ≤ base) : ownsB w b' V bs := by
  refine ⟨h.1, h.2.imp id ?_⟩
  rintro ⟨g, cap, cur, h4, h5, h6⟩
  exact ⟨g, cap, cur, h4, Nat.le_trans hb h5, h6⟩
/-- A block's two cells, where they lie. -/
theorem rowB_at {w : World} {A : Option Addr} {bs : List Blk} (h : RowR 2 dBlk w A bs) (i : Nat) (hi : i < bs.length) : ∃ ad, A = some ad ∧ cellsAt w (ad.add (i * 2)) 0 [.int .i64 bs[i]!.a, .int .u64 (bs[i]!.w : Int)] := by
  obtain ⟨ad, cs, e, _, hc, hd⟩ := row_at h i hi
  rw [show cs = _ from hd] at hc
  exact ⟨ad, e, hc⟩
/-! ### A set -/
structure PSet (base g : Nat) (w : World) (bs : List Blk) (fp : List Nat) : Prop where
  ex : ∃ V, w.heap[g]? = some (.cells #[V] 76 (0, 0)) ∧ ownsB w base V bs ∧ fp = g :: V.ownBlock.toList ∧ V.ownBlock ≠ some g
  ge : base ≤ g
  wf : WFB bs
section
variable {base g : Nat} {w w1 : World} {bs : List Blk} {fp : List Nat}
theorem PSet.lt (h : PSet base g w bs fp) : ∀ b ∈ fp, base ≤ b ∧ b < w.heap.size := by
  obtain ⟨V, h1, h2, rfl, _⟩ := h.ex
  intro b hb
  rcases List.mem_cons.1 hb with rfl | hb
  · exact ⟨h.ge, blk_lt h1⟩
  · exact h2.lt b (mem_own hb)
theorem PSet.keep (h : PSet base g w bs fp) (hb : ∀ b ∈ fp, w1.heap[b]? = w.heap[b]?) : PSet base g w1 bs fp := by
  obtain ⟨V, h1, h2, rfl, h4⟩ := h.ex
  exact ⟨⟨V, (hb g (by simp)).trans h1, h2.keep (fun b e => hb b (by simp [e])), rfl, h4⟩, h.ge, h.wf⟩
theorem PSet.up (h : PSet base g w bs fp) (hb : Below w.heap.size w w1) : PSet base g w1 bs fp := h.keep fun b hb' => hb.block b (h.lt b hb').2
theorem PSet.kept {rb : List Nat} (h : PSet base g w bs fp) (hk : Kept rb w w1) (hd : ∀ b ∈ fp, b ∉ rb) : PSet base g w1 bs fp := h.keep fun b hb' => hk.block b (h.lt b hb').2 (hd b hb')
theorem PSet.lower {b' : Nat} (h : PSet base g w bs fp) (hb : b' ≤ base) : PSet b' g w bs fp := by
  obtain ⟨V, h1, h2, h3, h4⟩ := h.ex
  exact ⟨⟨V, h1, h2.lower hb, h3, h4⟩, Nat.le_trans hb h.ge, h.wf⟩
end
/-! ### Steps -/
section
variable {P : Program} {T : Nat → Option TI} {n : Nat} {Q : Post} {F : Fm} {w : World} {ops : Array Oper} {rest : List Oper} {o : Oper} {K : Fm → Prop} {C : World → Prop}
/-- A function of two results. -/
theorem fin2 {fn : Func} {R : Ending → World → Prop} {s t : Tmp} {u v : Value} (hr : fn.results = #[.tmp s, .tmp t]) (hu : opn (F s) = some u) (hv : opn (F t) = some v) (h : R (.returned (.tuple #[u, v])) w) : Fin P fn R F w := by
  rw [opn_eq] at hu hv
  have hu := Option.some.inj hu
  have hv := Option.some.inj hv
  unfold Fin retQ
  intro tmps ht
  refine ⟨.tuple #[u, v], ?_, h⟩
  rw [results_tmp2 hr tmps P w, ht s, ht t, hu, hv]
/-- append(v, make(.., m)...), where there is no room. -/
theorem wl_apz (hT : TabOk P T) (e s b : Nat) {t tn : TypeId} {kn : IntKind} {c : Call} {x y : Operand} {g sLen sCap m : Nat} {mi : Int} {i : TI} {olds z : List Value} {cur : List Value} {t' : TypeId} (hop : o.op = .call c) (hcal : c.callee = .builtin .append) (hargs : c.args.toList = [x, y]) (htys : c.argTypes.toList = [t, tn])
    (hx : ev F x = .slice (some ⟨g, 0, none⟩) sLen sCap) (hmi : mi = (m : Int)) (hy : ev F y = .int .i64 mi) (h1 : appT T t e s b = true) (htn : P.underlying tn = some (.int kn)) (hi : T e = some i) (hz : i.zero.cells = z.toArray) (hs0 : Nat.blt 0 s = true) (hg : o.guard = none) {d : Nat} (hd : o.dst = some d) (hn : Nat.blt d n = true)
    (hb : w.heap[g]? = some (.cells cur.toArray t' (0, 0))) (hol : olds = cur.take (sLen * s)) (hl : sLen * s ≤ cur.length) (hm0 : 0 < m) (hgr : sCap < sLen + m) (hbig : (sLen + m) * b ≤ 140737488355328) (h63 : sLen + m ≤ 9223372036854775807)
    (k : ∀ cap w1 more, New w w1 w.heap.size (olds ++ (List.replicate m z).flatten ++ more) e → sLen + m ≤ cap → cap ≤ maxLen → (olds ++ (List.replicate m z).flatten ++ more).length = cap * s → wl P n ops rest Q (upd F d (.slice (some ⟨w.heap.size, 0, none⟩) (sLen + m) cap)) w1) : wl P n ops (o :: rest) Q F w := by
  subst hmi
  obtain ⟨hu, j, z', hj, hz', hs, hby, hzs⟩ := appT_ok hT h1
  obtain ⟨j2, hj2, hz2, _, _⟩ := T_i hT hi
  rw [hj] at hj2
  cases hj2
  rw [hz'] at hz2
  cases hz2
  obtain ⟨callee, ⟨args⟩, ⟨tys⟩⟩ := c
  simp only at hcal hargs htys
  subst hcal hargs htys
  have hlen : (cur.take (sLen * s)).length = sLen * s := by simp; omega
  have hold : (Builtin.firstCells j.size sLen (.slice (some ⟨g, 0, none⟩) sLen sCap)).run P w.drew = .ok olds.toArray w.drew := by
    have := run_loadCells_list (P := P) w.drew ⟨g, 0, none⟩ olds (fun q u hu => by
      have e : w.drew.cell? ((⟨g, 0, none⟩ : Addr).add q) = w.cell? ((⟨g, 0, none⟩ : Addr).add q) := rfl
      rw [e, add_zero]
      refine cell_blk hb ?_
      rw [hol] at hu
      rw [List.getElem?_take] at hu
      split at hu
      · simpa using hu
      · cases hu)
    rw [hol, hlen] at this
    simp only [Builtin.firstCells, hs, hol]
    exact this
  have hneed : sLen + m ≤ maxLen := by simp only [maxLen]; omega
  have hfit : Builtin.nextslicecap (sLen + m) sCap * j.bytes ≤ 281474976710656 := growslice_fits hgr (by rw [hby]; exact hbig)
  have hmb : m * j.bytes ≤ 281474976710656 := by
    have : m * j.bytes ≤ (sLen + m) * b := by rw [hby]; exact Nat.mul_le_mul_right _ (by omega)
    omega
  have hr := Lib.run_append_grow_zeros (P := P) w t tn o.type e j i.zero .i64 kn hu htn hj hz' (some ⟨g, 0, none⟩) sLen sCap olds hold m hm0 (by rw [hs]; exact nblt hs0) hgr (by omega) hmb hfit
  have hzl : z.length = s := by rw [hz] at hzs; simpa using hzs
  have hc : ∀ q, Builtin.zeroCells i.zero.cells q = ((List.replicate q z).flatten).toArray := fun q => by
    rw [← zeros_eq z q]
    unfold Builtin.zeroCells
    rw [hz]
    apply Array.ext'
    simp
  rw [hc, hc] at hr
  refine wl_val hg hd hn (v := .slice (some ⟨w.heap.size, 0, none⟩) (sLen + m) (grownCap w (sLen + m) sCap e)) (w1 := w.drew.alloc (.cells (olds ++ (List.replicate m z).flatten ++ (List.replicate (grownCap w (sLen + m) sCap e - (sLen + m)) z).flatten).toArray e)) ?_ (k _ _ (List.replicate (grownCap w (sLen + m) sCap e - (sLen + m)) z).flatten ?_ (grownCap_ge ..) (grownCap_le_maxLen _ _ _ _ hneed) ?_)
  · simp only [List.append_toArray] at hr
    simp [execOp, hop, resolve, invoke, builtin, hx, hy, hr]
  · have hn2 := new_alloc w.drew (olds ++ (List.replicate m z).flatten ++ (List.replicate (grownCap w (sLen + m) sCap e - (sLen + m)) z).flatten) e
    exact ⟨hn2.at_, hn2.size, hn2.blk, ⟨hn2.below.os, hn2.below.tape, hn2.below.output, hn2.below.size, hn2.below.block⟩⟩
  · have hge := grownCap_ge w (sLen + m) sCap e
    have : grownCap w (sLen + m) sCap e = sLen + m + (grownCap w (sLen + m) sCap e - (sLen + m)) := by omega
    rw [this]
    simp only [List.length_append, List.length_flatten, List.map_replicate, List.sum_replicate_nat, hol, hlen, hzl, Nat.add_mul, Nat.add_sub_cancel_left]
/-! ### nil or not -/
def ptrT (T : Nat → Option TI) (t : Nat) : Bool := match T t with
  | some ⟨.pointer _, _, _, _⟩ => true
  | _ => false
theorem pn_run (hT : TabOk P T) {t : TypeId} {x : Operand} {yt : TypeId} {A : Option Addr} (hop : o.op = .binOp .eql t x (.const (.pointer none)) yt) (hx : ev F x = .pointer A) (h1 : ptrT T t = true) : (execOp (ev F) o).run P w = .ok (.value (.bool A.isNone)) w := by
  unfold ptrT at h1
  split at h1
  · rename_i e1
    have hu := T_u hT e1
    have h2 : (Op.equal t (.pointer A) (.pointer none)).run P w = .ok A.isNone w := by
      unfold Op.equal Op.maxDepth
      rw [show (10000 : Nat) = 9999 + 1 from rfl]
      unfold Op.equalIn
      cases A <;> simp [run_und hu]
    have hy : ev F (.const (.pointer none)) = .pointer none := rfl
    simp [execOp, hop, hx, hy, eqGuard, binOp, h2]
  · cases h1
theorem wl_pnT (hT : TabOk P T) {t : TypeId} {x : Operand} {yt : TypeId} (hop : o.op = .binOp .eql t x (.const (.pointer none)) yt) (hx : ev F x = .pointer none) (h1 : ptrT T t = true) (hg : o.guard = none) {d : Nat} (hd : o.dst = some d) (hn : Nat.blt d n = true)
    (k : wl P n ops rest Q (upd F d (.bool true)) w) : wl P n ops (o :: rest) Q F w := wl_val hg hd hn (pn_run hT hop hx h1) k
theorem wl_pnF (hT : TabOk P T) {t : TypeId} {x : Operand} {yt : TypeId} {a : Addr} (hop : o.op = .binOp .eql t x (.const (.pointer none)) yt) (hx : ev F x = .pointer (some a)) (h1 : ptrT T t = true) (hg : o.guard = none) {d : Nat} (hd : o.dst = some d) (hn : Nat.blt d n = true)
    (k : wl P n ops rest Q (upd F d (.bool false)) w) : wl P n ops (o :: rest) Q F w := wl_val hg hd hn (pn_run hT hop hx h1) k
theorem pnn_run (hT : TabOk P T) {t : TypeId} {x : Operand} {yt : TypeId} {A : Option Addr} (hop : o.op = .binOp .neq t x (.const (.pointer none)) yt) (hx : ev F x = .pointer A) (h1 : ptrT T t = true) : (execOp (ev F) o).run P w = .ok (.value (.bool (!A.isNone))) w := by
  unfold ptrT at h1
  split at h1
  · rename_i e1
    have hu := T_u hT e1
    have h2 : (Op.equal t (.pointer A) (.pointer none)).run P w = .ok A.isNone w := by
      unfold Op.equal Op.maxDepth
      rw [show (10000 : Nat) = 9999 + 1 from rfl]
      unfold Op.equalIn
      cases A <;> simp [run_und hu]
    have hy : ev F (.const (.pointer none)) = .pointer none := rfl
    simp [execOp, hop, hx, hy, eqGuard, binOp, h2]
  · cases h1
theorem wl_pqT (hT : TabOk P T) {t : TypeId} {x : Operand} {yt : TypeId} (hop : o.op = .binOp .neq t x (.const (.pointer none)) yt) (hx : ev F x = .pointer none) (h1 : ptrT T t = true) (hg : o.guard = none) {d : Nat} (hd : o.dst = some d) (hn : Nat.blt d n = true)
    (k : wl P n ops rest Q (upd F d (.bool false)) w) : wl P n ops (o :: rest) Q F w := wl_val hg hd hn (pnn_run hT hop hx h1) k
theorem wl_pqF (hT : TabOk P T) {t : TypeId} {x : Operand} {yt : TypeId} {a : Addr} (hop : o.op = .binOp .neq t x (.const (.pointer none)) yt) (hx : ev F x = .pointer (some a)) (h1 : ptrT T t = true) (hg : o.guard = none) {d : Nat} (hd : o.dst = some d) (hn : Nat.blt d n = true)
    (k : wl P n ops rest Q (upd F d (.bool true)) w) : wl P n ops (o :: rest) Q F w := wl_val hg hd hn (pnn_run hT hop hx h1) k
/-! ### cap, cuts with their ends told, functions without a body -/
theorem wl_cap (hT : TabOk P T) (e s : Nat) {c : Call} {x : Operand} {t : TypeId} {A : Option Addr} {l cp : Nat} (hop : o.op = .call c) (hcal : c.callee = .builtin .cap) (hargs : c.args.toList = [x]) (htys : c.argTypes.toList = [t]) (hx : ev F x = .slice A l cp) (h1 : sliceT T t e s = true) (hg : o.guard = none) {d : Nat} (hd : o.dst = some d) (hn : Nat.blt d n = true)
    (k : wl P n ops rest Q (upd F d (.int .i64 cp)) w) : wl P n ops (o :: rest) Q F w := by
  refine wl_val hg hd hn ?_ k
  obtain ⟨hu, _⟩ := sliceT_ok (w := w) hT h1
  obtain ⟨callee, ⟨args⟩, ⟨tys⟩⟩ := c
  simp only at hcal hargs htys
  subst hcal hargs htys
  simp [execOp, hop, resolve, invoke, builtin, hx, Builtin.cap_, run_und hu, goInt]
theorem wl_slLr (hT : TabOk P T) (e s : Nat) {t : TypeId} {x y : Operand} {A B : Option Addr} {l c l2 c2 : Nat} {ki : IntKind} {h : Int} {hn' : Nat} (hh : h = (hn' : Int)) (hB : cutA A hn' c s = B) (hl2 : l2 = l - hn') (hc2 : c2 = c - hn') (hc : hn' ≤ l) (hop : o.op = .slice t x (some y) none none) (hx : ev F x = .slice A l c) (hy : ev F y = .int ki h) (h1 : sliceT T t e s = true) (hg : o.guard = none) {d : Nat} (hd : o.dst = some d) (hn : Nat.blt d n = true)
    (k : wl P n ops rest Q (upd F d (.slice B l2 c2)) w) : wl P n ops (o :: rest) Q F w := by
  subst hh hB hl2 hc2
  refine wl_slL hT e s hop hx hy h1 hg hd hn (by omega) (by omega) ?_
  simpa using k
theorem wq_slLr (hT : TabOk P T) (e s : Nat) {t : TypeId} {x y : Operand} {A B : Option Addr} {l c l2 c2 : Nat} {ki : IntKind} {h : Int} {hn' : Nat} (hh : h = (hn' : Int)) (hB : cutA A hn' c s = B) (hl2 : l2 = l - hn') (hc2 : c2 = c - hn') (hc : hn' ≤ l) (hop : o.op = .slice t x (some y) none none) (hx : ev F x = .slice A l c) (hy : ev F y = .int ki h) (h1 : sliceT T t e s = true) (hg : o.guard = none) {d : Nat} (hd : o.dst = some d) (hn : Nat.blt d n = true)
    (k : wq P n ops C rest K (upd F d (.slice B l2 c2))) : wq P n ops C (o :: rest) K F := by
  subst hh hB hl2 hc2
  refine wq_slL hT e s hop hx hy h1 hg hd hn (by omega) (by omega) ?_
  simpa using k
theorem wl_slHr (hT : TabOk P T) (e s : Nat) {t : TypeId} {x y : Operand} {A : Option Addr} {l c : Nat} {ki : IntKind} {h : Int} {hn' : Nat} (hh : h = (hn' : Int)) (hc : hn' ≤ c) (hop : o.op = .slice t x none (some y) none) (hx : ev F x = .slice A l c) (hy : ev F y = .int ki h) (h1 : sliceT T t e s = true) (hg : o.guard = none) {d : Nat} (hd : o.dst = some d) (hn : Nat.blt d n = true)
    (k : wl P n ops rest Q (upd F d (.slice A hn' c)) w) : wl P n ops (o :: rest) Q F w := by
  subst hh
  refine wl_slH hT e s hop hx hy h1 hg hd hn (by omega) (by omega) ?_
  simpa using k
theorem cut_in {g off i c s : Nat} (h : i < c) : cutA (some ⟨g, off, none⟩) i c s = some ⟨g, off + i * s, none⟩ := by
  unfold cutA
  rw [if_neg (by omega)]
  unfold Addr.add
  simp only [Option.map_some]
  split
  · rename_i e; rw [e]; rfl
  · rfl
theorem wl_ext {f : FuncId} {c : Call} {x : Operand} {args : List Value} {v : Value} (he : (callFunc f args.toArray).run P w = .ok (.value v) w) (hop : o.op = .call c) (hcal : c.callee = .value x) (hx : ev F x = .func (.func f) #[] #[]) (hargs : c.args.toList.map (ev F) = args) (hg : o.guard = none) {d : Nat} (hd : o.dst = some d) (hn : Nat.blt d n = true)
    (k : wl P n ops rest Q (upd F d v) w) : wl P n ops (o :: rest) Q F w := by
  refine wl_val hg hd hn ?_ k
  have : c.args.map (ev F) = args.toArray := Array.toList_inj.1 (by rw [Array.toList_map, hargs])
  simp [execOp, hop, resolve, hcal, hx, Deferred.ofValue, this, invoke, he]
end
end Go.Proofs.Ytjggjhgbobmkhaa

/- Regions that draw their order: one invariant for all orders; the orders are checked over lists. -/
namespace Go.Proofs.Ytjggjhgbobmkhaa
open Go.RowKit
set_option linter.unusedVariables false
set_option linter.unusedSimpArgs false
/-- All but the blocks of rb stays. -/
abbrev Kr (w : World) (rb : List Nat) : World → Prop := fun w' => Kept rb w w'
theorem stable_Kr (w : World) (rb : List Nat) : Stable (Kr w rb) := fun _ _ h h' => h.up h'
section
variable {P : Program} {T : Nat → Option TI} {n : Nat} {Q : Post} {F : Fm} {w : World} {C : World → Prop}
theorem xn_run4 (hT : TabOk P T) (e s : Nat) {o : Oper} {t : TypeId} {x ix : Operand} {a : Addr} {len cap : Nat} {ki : IntKind} {i : Nat} (hop : o.op = .indexAddr t x ix) (hx : ev F x = .slice (some a) len cap) (hi : ev F ix = .int ki i) (h1 : sliceT T t e s = true) (hl : i < len) : (execOp (ev F) o).run P w = .ok (.value (.pointer (some (a.add (i * s))))) w := by
  obtain ⟨hu, hs⟩ := sliceT_ok (w := w) hT h1
  have h0 : (0 : Int) ≤ (i : Int) := by omega
  have h2 : (i : Int) < (len : Int) := by omega
  simp [execOp, hop, hx, hi, Instr.indexAt, asIntOf, run_und hu, hs, h2]
  intro hc
  omega
/-- A store, in any order. -/
theorem wb_S (hT : TabOk P T) {o : Oper} {K : Fm → World → Prop} {t t' : TypeId} {x y : Operand} {i : TI} {g off : Nat} {cs : List Value} {v : Value} (hb : w.heap[g]? = some (.cells cs.toArray t' (0, 0))) (hop : o.op = .store t x y) (hx : ev F x = .pointer (some ⟨g, off, none⟩)) (hy : ev F y = v)
    (hi : T t = some i) (h1 : i.size = 1) (hv : v.oneCell' = true) (hoff : off < cs.length) (hd : o.dst = none)
    (k : ∀ w1, Put w w1 g (cs.set off v) t' → K F w1) : wb P n o F w K := by
  refine ⟨by rw [hd]; rfl, .inr (.inr ⟨w.setCell ⟨g, off, none⟩ v, ?_, by rw [hd]; exact k _ (put_setCell hb v)⟩)⟩
  have hs := run_size (w := w) hT hi
  rw [h1] at hs
  have hc : w.cell? ⟨g, off, none⟩ = some cs[off] := cell_blk hb (by simp [hoff])
  have hf : w.frozen? ⟨g, off, none⟩ = false := by simp [World.frozen?, hb]
  cases v <;> simp_all [Value.oneCell', execOp, Instr.storeAt, Instr.sureAddr, storeVar, Value.cells, storeCells, store, Sem.run, Addr.add] <;> rfl
theorem wb_Se (hT : TabOk P T) {o : Oper} {K : Fm → World → Prop} {t t' : TypeId} {x y : Operand} {i : TI} {g j : Nat} {cs : List Value} {v : Value} (hb : w.heap[g]? = some (.cells cs.toArray t' (0, 0))) (hop : o.op = .store t x y) (hx : ev F x = .pointer (some ((⟨g, 0, none⟩ : Addr).add j))) (hy : ev F y = v)
    (hi : T t = some i) (h1 : i.size = 1) (hv : v.oneCell' = true) (hoff : j < cs.length) (hd : o.dst = none)
    (k : ∀ w1, Put w w1 g (cs.set j v) t' → K F w1) : wb P n o F w K :=
  wb_S (off := j) hT hb hop (by rw [hx, add_zero]) hy hi h1 hv hoff hd k
end
end Go.Proofs.Ytjggjhgbobmkhaa

/- copy; rows of rows of one's own. -/
namespace Go.Proofs.Ytjggjhgbobmkhaa
open Go.RowKit
set_option linter.unusedVariables false
set_option linter.unusedSimpArgs false
section
variable {P : Program} {T : Nat → Option TI} {n : Nat} {Q : Post} {F : Fm} {w : World} {ops : Array Oper} {rest : List Oper} {o : Oper}
theorem put_setRow {g : Nat} {cur cs : List Value} {t : TypeId} (hb : w.heap[g]? = some (.cells cur.toArray t (0, 0))) : Put w (w.setRow g cs.toArray) g cs t :=
  ⟨by simp [World.setRow], setRow_heap w g cur.toArray _ t _ hb, ⟨rfl, rfl, rfl, by simp [World.setRow], fun k _ hk => setRow_other w g k _ (fun e => hk (by simp [e]))⟩⟩
/-- copy into a block of one's own, cell by cell. -/
theorem wl_copy (hT : TabOk P T) (e b : Nat) {t t2 t' : TypeId} {c : Call} {x y : Operand} {g dl dc sl sc : Nat} {a : Addr} {cur : List Value} (cs : List Value) (hb : w.heap[g]? = some (.cells cur.toArray t' (0, 0))) (hop : o.op = .call c) (hcal : c.callee = .builtin .copy) (hargs : c.args.toList = [x, y]) (htys : c.argTypes.toList = [t, t2])
    (hx : ev F x = .slice (some ⟨g, 0, none⟩) dl dc) (hy : ev F y = .slice (some a) sl sc) (h1 : appT T t e 1 b = true) (hg : o.guard = none) {d : Nat} (hd : o.dst = some d) (hn : Nat.blt d n = true)
    (hl : cs.length = min sl dl) (hsrc : ∀ j v, cs[j]? = some v → w.cell? (a.add j) = some v) (hfit : cs.length ≤ cur.length) (hone : ∀ v ∈ cs, v.oneCell' = true)
    (k : ∀ w1, Put w w1 g (cs ++ cur.drop cs.length) t' → wl P n ops rest Q (upd F d (goInt cs.length)) w1) : wl P n ops (o :: rest) Q F w := by
  obtain ⟨hu, j, z, hj, hz, hs, hby, hzs⟩ := appT_ok hT h1
  obtain ⟨callee, ⟨args⟩, ⟨tys⟩⟩ := c
  simp only at hcal hargs htys
  subst hcal hargs htys
  have hr := run_copy_row (P := P) w t t2 o.type e g 0 dl dc a sl sc cur.toArray t' cs hu (by rw [hj]; simp [hs]) hb hl hsrc (by simpa using hfit) hone
  refine wl_val hg hd hn ?_ (k _ (put_setRow (cs := cs ++ cur.drop cs.length) hb))
  simp at hr
  simp [execOp, hop, resolve, invoke, builtin, hx, hy, hr]
end
/-- A row of rows of numbers, all of the call's own: g holds the rows' values vs, bl are the blocks where they lie. -/
structure GMat (base g : Nat) (w : World) (vs : List Value) (M : List (List Int)) (bl : List Nat) : Prop where
  blk : w.heap[g]? = some (.cells vs.toArray 31 (0, 0))
  len : vs.length = M.length
  hg : base ≤ g
  gb : g ∉ bl
  lt : ∀ b ∈ bl, base ≤ b ∧ b < w.heap.size
  row : ∀ i, i < M.length → GInts base w vs[i]! M[i]! ∧ ∀ b, vs[i]!.ownBlock = some b → b ∈ bl
  ne : ∀ i j, i < M.length → j < M.length → i ≠ j → ∀ b, vs[i]!.ownBlock = some b → vs[j]!.ownBlock ≠ some b
section
variable {base g : Nat} {w w1 w2 : World} {vs : List Value} {M : List (List Int)} {bl : List Nat}
theorem GMat.stays (h : GMat base g w vs M bl) {row : Option Nat} (hg : w.grownBy w1 row) (h1 : ∀ b, row = some b → b ≠ g ∧ b ∉ bl) : GMat base g w1 vs M bl := by
  refine ⟨(hg.block g (blk_lt h.blk) (fun e => (h1 g e.symm).1 rfl)).trans h.blk, h.len, h.hg, h.gb, fun b hb => ⟨(h.lt b hb).1, Nat.lt_of_lt_of_le (h.lt b hb).2 hg.size⟩, fun i hi => ⟨(h.row i hi).1.stays row hg (by simp) ?_, (h.row i hi).2⟩, h.ne⟩
  cases ho : vs[i]!.ownBlock with
  | none => exact .inl rfl
  | some b => exact .inr fun e => (h1 b e.symm).2 ((h.row i hi).2 b ho)
theorem GMat.below (h : GMat base g w vs M bl) (hb : Below w.heap.size w w1) : GMat base g w1 vs M bl := h.stays (grown_of (row := none) hb) nofun
theorem get_set {α : Type} [Inhabited α] (xs : List α) (i j : Nat) (x : α) (hj : j < xs.length) : (xs.set i x)[j]! = if i = j then x else xs[j]! := by
  rw [getElem!_pos _ j (by simpa using hj), List.getElem_set]
  split
  · rfl
  · rw [getElem!_pos xs j hj]
theorem GMat.app (h : GMat base g w vs M bl) {i : Nat} (hi : i < M.length) {v' : Value} {x : Int} (hv : GInts base w1 v' (M[i]! ++ [x])) (hgr : w.grownBy w1 vs[i]!.ownBlock)
    (hob : v'.ownBlock = vs[i]!.ownBlock ∨ ∃ b, v'.ownBlock = some b ∧ w.heap.size ≤ b) (hp : Put w1 w2 g (vs.set i v') 31) : GMat base g w2 (vs.set i v') (M.set i (M[i]! ++ [x])) (bl ++ v'.ownBlock.toList) := by
  have hgl := blk_lt h.blk
  have hnew : ∀ b, v'.ownBlock = some b → b ∈ bl ∨ w.heap.size ≤ b := fun b e => by
    rcases hob with e1 | ⟨b', e1, e2⟩
    · exact .inl ((h.row i hi).2 b (by rw [← e1]; exact e))
    · rw [e] at e1; cases e1; exact .inr e2
  have hng : ∀ b, v'.ownBlock = some b → b ≠ g := fun b e e' => by
    subst e'
    rcases hnew b e with h1 | h1
    · exact h.gb h1
    · omega
  have hgi : ∀ b, vs[i]!.ownBlock = some b → b ≠ g := fun b e e' => h.gb (e' ▸ (h.row i hi).2 b e)
  refine ⟨hp.blk, by simp [h.len], h.hg, ?_, ?_, ?_, ?_⟩
  · intro hm
    rcases List.mem_append.1 hm with hm | hm
    · exact h.gb hm
    · exact hng g (mem_own hm) rfl
  · intro b hb
    rcases List.mem_append.1 hb with hb | hb
    · exact ⟨(h.lt b hb).1, by rw [hp.size]; exact Nat.lt_of_lt_of_le (h.lt b hb).2 hgr.size⟩
    · rw [hp.size]; exact hv.olt b (mem_own hb)
  · intro j hj
    have hj' : j < M.length := by simpa using hj
    rw [get_set _ _ _ _ (by rw [h.len]; exact hj'), get_set _ _ _ _ hj']
    by_cases e : i = j
    · rw [if_pos e, if_pos e]
      exact ⟨hv.other hp.grown (by simp) (fun b hb => hng b hb), fun b hb => List.mem_append_right _ (by rw [hb]; simp)⟩
    · rw [if_neg e, if_neg e]
      refine ⟨((h.row j hj').1.stays _ hgr (by simp) ?_).other hp.grown (by simp) (fun b hb e' => h.gb (e' ▸ (h.row j hj').2 b hb)), fun b hb => List.mem_append_left _ ((h.row j hj').2 b hb)⟩
      cases ho : vs[j]!.ownBlock with
      | none => exact .inl rfl
      | some b => exact .inr fun e' => h.ne j i hj' hi (fun q => e q.symm) b ho e'.symm
  · intro j k hj hk hjk b hb
    have hj' : j < M.length := by simpa using hj
    have hk' : k < M.length := by simpa using hk
    rw [get_set _ _ _ _ (by rw [h.len]; exact hj')] at hb
    rw [get_set _ _ _ _ (by rw [h.len]; exact hk')]
    have old : ∀ l, l < M.length → vs[l]!.ownBlock = some b → b < w.heap.size := fun l hl e => (h.lt b ((h.row l hl).2 b e)).2
    by_cases e : i = j
    · rw [if_pos e] at hb
      subst e
      rw [if_neg hjk]
      intro e2
      rcases hob with e1 | ⟨b', e1, e3⟩
      · exact h.ne i k hi hk' hjk b (by rw [← e1]; exact hb) e2
      · rw [hb] at e1; cases e1
        have := old k hk' e2
        omega
    · rw [if_neg e] at hb
      by_cases e5 : i = k
      · subst e5
        rw [if_pos rfl]
        intro e2
        rcases hob with e1 | ⟨b', e1, e3⟩
        · exact h.ne j i hj' hi hjk b hb (by rw [← e1]; exact e2)
        · rw [e2] at e1; cases e1
          have := old j hj' hb
          omega
      · rw [if_neg e5]
        exact h.ne j k hj' hk' hjk b hb
theorem GMat.init {n : Nat} (hb : w.heap[g]? = some (.cells (List.replicate n [Value.slice none 0 0]).flatten.toArray 31 (0, 0))) (hg : base ≤ g) : GMat base g w (List.replicate n (.slice none 0 0)) (List.replicate n []) [] := by
  have e : (List.replicate n [Value.slice none 0 0]).flatten = List.replicate n (.slice none 0 0) := by simp
  rw [e] at hb
  have hv : ∀ i, i < n → (List.replicate n (Value.slice none 0 0))[i]! = .slice none 0 0 := fun i hi => by rw [getElem!_pos _ i (by simpa using hi)]; simp
  refine ⟨hb, by simp, hg, by simp, by simp, fun i hi => ?_, fun i j hi hj _ b hb => ?_⟩
  · have hi' : i < n := by simpa using hi
    rw [hv i hi', getElem!_pos _ i hi]
    simp only [List.getElem_replicate]
    exact ⟨GRow.nil .., by simp [Value.ownBlock]⟩
  · rw [hv i (by simpa using hi)] at hb
    cases hb
theorem GMat.rowAt (h : GMat base g w vs M bl) {i : Nat} (hi : i < M.length) : ∃ A c, vs[i]! = .slice A M[i]!.length c ∧ M[i]!.length ≤ c ∧ RI w A M[i]! := (h.row i hi).1.row
theorem GMat.cell (h : GMat base g w vs M bl) {i : Nat} (hi : i < M.length) : w.cell? ((⟨g, 0, none⟩ : Addr).add (i * 1)) = some vs[i]! := by
  rw [Nat.mul_one, add_zero]
  have hi' : i < vs.length := by rw [h.len]; exact hi
  exact cell_blk h.blk (by rw [getElem!_pos vs i hi']; simp [hi'])
theorem GMat.rows (h : GMat base g w vs M bl) (hm : M.length ≤ 9223372036854775807) : RRows w (some ⟨g, 0, none⟩) M := by
  refine row_of_blk h.blk ⟨by rw [h.len]; simp, fun i hi => ?_⟩ hm
  obtain ⟨A, c, e1, e2, e3⟩ := h.rowAt hi
  have hi' : i < vs.length := by rw [h.len]; exact hi
  have e : (vs.drop (i * 1)).take 1 = [vs[i]!] := by
    rw [Nat.mul_one, List.drop_eq_getElem_cons hi', getElem!_pos vs i hi']
    rfl
  rw [e, e1]
  exact ⟨A, c, rfl, e2, e3⟩
end
theorem rowB_of_blk {w : World} {g : Nat} {xs : List Bool} {t : TypeId} (h : w.heap[g]? = some (.cells (vb xs).toArray t (0, 0))) (hm : xs.length ≤ 9223372036854775807) : RowR 1 dB w (some ⟨g, 0, none⟩) xs := by
  refine row_of_blk h ⟨by simp [vb], fun i hi => ?_⟩ hm
  have hi' : i < (vb xs).length := by simpa [vb] using hi
  have e : ((vb xs).drop (i * 1)).take 1 = [.bool xs[i]!] := by
    rw [Nat.mul_one, List.drop_eq_getElem_cons hi', getElem!_pos xs i hi]
    simp [vb]
  rw [e]
  rfl
end Go.Proofs.Ytjggjhgbobmkhaa

/- A row of numbers whose front is taken away; facts that lie in the blocks of one owner. -/
namespace Go.Proofs.Ytjggjhgbobmkhaa
open Go.RowKit
set_option linter.unusedVariables false
set_option linter.unusedSimpArgs false
def vi (xs : List Nat) : List Value := xs.map fun (x : Nat) => Value.int .i64 (x : Int)
theorem vi_cons (x : Nat) (ys : List Nat) : vi (x :: ys) = .int .i64 (x : Int) :: vi ys := rfl
/-- A row of numbers of the call's own, wherever in its block it begins. -/
structure QRow (base : Nat) (V : Value) (xs : List Nat) (fp : List Nat) (w : World) : Prop where
  ex : (xs = [] ∧ fp = [] ∧ ∃ A, V = .slice A 0 0) ∨ ∃ (g : Nat) (pre post : List Value), fp = [g] ∧ V = .slice (some ⟨g, pre.length, none⟩) xs.length (xs.length + post.length) ∧ base ≤ g ∧
    w.heap[g]? = some (.cells (pre ++ vi xs ++ post).toArray 3 (0, 0)) ∧ xs.length + post.length ≤ 9223372036854775807
section
variable {base : Nat} {V : Value} {xs r fp : List Nat} {w w1 : World} {x : Nat}
theorem QRow.keep (h : QRow base V xs fp w) (hb : ∀ b ∈ fp, w1.heap[b]? = w.heap[b]?) : QRow base V xs fp w1 := by
  rcases h.ex with h | ⟨g, pre, post, h1, h2, h3, h4, h5⟩
  · exact ⟨.inl h⟩
  · exact ⟨.inr ⟨g, pre, post, h1, h2, h3, (hb g (by simp [h1])).trans h4, h5⟩⟩
theorem QRow.lt (h : QRow base V xs fp w) : ∀ b ∈ fp, base ≤ b ∧ b < w.heap.size := by
  rcases h.ex with ⟨_, rfl, _⟩ | ⟨g, pre, post, rfl, h2, h3, h4, h5⟩
  · simp
  · intro b hb; simp at hb; subst hb; exact ⟨h3, blk_lt h4⟩
theorem QRow.form (h : QRow base V xs fp w) : ∃ A c, V = .slice A xs.length c ∧ xs.length ≤ c := by
  rcases h.ex with ⟨rfl, _, A, rfl⟩ | ⟨g, pre, post, h1, h2, h3, h4, h5⟩
  · exact ⟨A, 0, rfl, by simp⟩
  · exact ⟨_, _, h2, by omega⟩
theorem QRow.nil (A : Option Addr) : QRow base (.slice A 0 0) [] [] w := ⟨.inl ⟨rfl, rfl, A, rfl⟩⟩
theorem QRow.head {A : Option Addr} {l c : Nat} (h : QRow base (.slice A l c) (x :: r) fp w) : ∃ ad, A = some ad ∧ w.cell? (ad.add (0 * 1)) = some (.int .i64 (x : Int)) := by
  rcases h.ex with ⟨h1, _⟩ | ⟨g, pre, post, h1, h2, h3, h4, h5⟩
  · cases h1
  · injection h2 with h2 _ _
    subst h2
    refine ⟨_, rfl, ?_⟩
    show w.cell? ⟨g, pre.length, none⟩ = _
    refine cell_blk h4 ?_
    simp [vi_cons]
theorem QRow.tail {A : Option Addr} {l c : Nat} (h : QRow base (.slice A l c) (x :: r) fp w) : ∃ fp', QRow base (.slice (cutA A 1 c 1) r.length (c - 1)) r fp' w ∧ ∀ b ∈ fp', b ∈ fp := by
  rcases h.ex with ⟨h1, _⟩ | ⟨g, pre, post, h1, h2, h3, h4, h5⟩
  · cases h1
  · injection h2 with h2 h6 h7
    subst h2 h7
    by_cases h0 : (x :: r).length + post.length = 1
    · have hr : r = [] := by cases r with | nil => rfl | cons => simp at h0; omega
      subst hr
      have hp : post = [] := by cases post with | nil => rfl | cons => simp at h0
      subst hp
      exact ⟨[], ⟨.inl ⟨rfl, rfl, _, rfl⟩⟩, by simp⟩
    · refine ⟨[g], ⟨.inr ⟨g, pre ++ [.int .i64 (x : Int)], post, rfl, ?_, h3, ?_, ?_⟩⟩, by simp [h1]⟩
      · have hlt : 1 < (x :: r).length + post.length := by simp at h0 ⊢; omega
        rw [cut_in hlt]
        simp
      · rw [h4]; simp [vi_cons]
      · simp at h5 ⊢; omega
end
section
variable {P : Program} {T : Nat → Option TI} {n : Nat} {Q : Post} {F : Fm} {w : World} {ops : Array Oper} {rest : List Oper} {o : Oper}
end
/-! ### owners -/
/-- A fact that lies in blocks of owner k. -/
def AtF (O : Nat → Nat) (k : Nat) (w : World) (P : List Nat → World → Prop) : Prop := ∃ fp : List Nat, (∀ b ∈ fp, O b = k ∧ b < w.heap.size) ∧ ∀ w', (∀ b ∈ fp, w'.heap[b]? = w.heap[b]?) → P fp w'
def newO (O : Nat → Nat) (s k : Nat) : Nat → Nat := fun b => if b < s then O b else k
theorem newO_old {O : Nat → Nat} {s k b : Nat} (h : b < s) : newO O s k b = O b := if_pos h
theorem newO_new {O : Nat → Nat} {s k b : Nat} (h : s ≤ b) : newO O s k b = k := if_neg (by omega)
section
variable {O O1 O2 : Nat → Nat} {k j : Nat} {w w1 w2 : World} {P Q : List Nat → World → Prop} {f : Nat → List Nat → World → Prop}
theorem AtF.now (h : AtF O k w P) : ∃ fp, P fp w ∧ ∀ b ∈ fp, O b = k ∧ b < w.heap.size := let ⟨fp, h1, h2⟩ := h; ⟨fp, h2 w fun _ _ => rfl, h1⟩
theorem AtF.imp (h : AtF O k w P) (hi : ∀ fp w, P fp w → Q fp w) : AtF O k w Q := let ⟨fp, h1, h2⟩ := h; ⟨fp, h1, fun w' hw => hi _ _ (h2 w' hw)⟩
theorem AtF.keep (h : AtF O k w P) (hO : ∀ b, b < w.heap.size → O1 b = O b) (hs : w.heap.size ≤ w1.heap.size) (hb : ∀ b, b < w.heap.size → O b = k → w1.heap[b]? = w.heap[b]?) : AtF O1 k w1 P := by
  obtain ⟨fp, h1, h2⟩ := h
  exact ⟨fp, fun b hb' => ⟨by rw [hO b (h1 b hb').2]; exact (h1 b hb').1, Nat.lt_of_lt_of_le (h1 b hb').2 hs⟩, fun w' hw => h2 w' fun b hb' => (hw b hb').trans (hb b (h1 b hb').2 (h1 b hb').1)⟩
theorem AtF.tr : AtF O k w fun _ _ => True := ⟨[], by simp, fun _ _ => trivial⟩
/-- All facts, each by its owner. -/
def All (O : Nat → Nat) (w : World) (f : Nat → List Nat → World → Prop) : Prop := ∀ k, AtF O k w (f k)
def updF (f : Nat → List Nat → World → Prop) (k : Nat) (P : List Nat → World → Prop) : Nat → List Nat → World → Prop := fun j => if j = k then P else f j
/-- What blocks of other owners than 50 to 99 come to; the owners stay. -/
structure Stp (O O1 : Nat → Nat) (w w1 : World) : Prop where
  os : w1.os = w.os
  tape : w1.tape = w.tape
  output : w1.output = w.output
  size : w.heap.size ≤ w1.heap.size
  own : ∀ b, b < w.heap.size → O1 b = O b
  fr : ∀ b, b < w.heap.size → 50 ≤ O b → O b < 100 → w1.heap[b]? = w.heap[b]?
theorem Stp.refl (O : Nat → Nat) (w : World) : Stp O O w w := ⟨rfl, rfl, rfl, Nat.le_refl _, fun _ _ => rfl, fun _ _ _ _ => rfl⟩
theorem Stp.trans (h : Stp O O1 w w1) (k : Stp O1 O2 w1 w2) : Stp O O2 w w2 :=
  ⟨k.os.trans h.os, k.tape.trans h.tape, k.output.trans h.output, Nat.le_trans h.size k.size, fun b hb => (k.own b (Nat.lt_of_lt_of_le hb h.size)).trans (h.own b hb),
   fun b hb h1 h2 => (k.fr b (Nat.lt_of_lt_of_le hb h.size) (by rw [h.own b hb]; exact h1) (by rw [h.own b hb]; exact h2)).trans (h.fr b hb h1 h2)⟩
theorem Stp.up (hb : Below w.heap.size w w1) (k : Nat) : Stp O (newO O w.heap.size k) w w1 := ⟨hb.os, hb.tape, hb.output, hb.size, fun _ h => newO_old h, fun b h _ _ => hb.block b h⟩
theorem Stp.kept {rb : List Nat} (hk : Kept rb w w1) (hr : ∀ b ∈ rb, b < w.heap.size → O b = k) (h5 : k < 50 ∨ 100 ≤ k) (k' : Nat) : Stp O (newO O w.heap.size k') w w1 :=
  ⟨hk.os, hk.tape, hk.output, hk.size, fun _ h => newO_old h, fun b h h1 h2 => hk.block b h fun hm => by have := hr b hm h; omega⟩
theorem Stp.below {base : Nat} (h : Stp O O1 w w1) (hl : ∀ b, b < base → O b = 99) (hb : base ≤ w.heap.size) : Below base w w1 :=
  ⟨h.os, h.tape, h.output, h.size, fun b hlt => h.fr b (by omega) (by rw [hl b hlt]; omega) (by rw [hl b hlt]; omega)⟩
theorem Stp.low {base : Nat} (h : Stp O O1 w w1) (hl : ∀ b, b < base → O b = 99) (hb : base ≤ w.heap.size) : ∀ b, b < base → O1 b = 99 := fun b hlt => by rw [h.own b (by omega)]; exact hl b hlt
theorem AtF.stp (h : AtF O k w P) (hs : Stp O O1 w w1) (h1 : 50 ≤ k) (h2 : k < 100) : AtF O1 k w1 P := h.keep hs.own hs.size fun b hb e => hs.fr b hb (by omega) (by omega)
theorem All.up (h : All O w f) (hb : Below w.heap.size w w1) (k : Nat) : All (newO O w.heap.size k) w1 f := fun j => (h j).keep (fun _ => newO_old) hb.size fun b hlt _ => hb.block b hlt
/-- Owner k's fact becomes P. -/
theorem All.put {rb fp : List Nat} (h : All O w f) (hk : Kept rb w w1) (hr : ∀ b ∈ rb, b < w.heap.size → O b = k) (hfp : ∀ b ∈ fp, (b < w.heap.size → O b = k) ∧ b < w1.heap.size) (hP : ∀ w', (∀ b ∈ fp, w'.heap[b]? = w1.heap[b]?) → P fp w') : All (newO O w.heap.size k) w1 (updF f k P) := fun j => by
  unfold updF
  split
  · rename_i e
    subst e
    refine ⟨fp, fun b hb => ⟨?_, (hfp b hb).2⟩, hP⟩
    by_cases hlt : b < w.heap.size
    · rw [newO_old hlt]; exact (hfp b hb).1 hlt
    · rw [newO_new (by omega)]
  · rename_i e
    exact (h j).keep (fun _ => newO_old) hk.size fun b hb ho => hk.block b hb fun hm => e (by rw [← ho]; exact hr b hm hb)
theorem All.imp {f' : Nat → List Nat → World → Prop} (h : All O w f) (hi : ∀ j fp w, f j fp w → f' j fp w) : All O w f' := fun j => (h j).imp (hi j)
end
end Go.Proofs.Ytjggjhgbobmkhaa

/- Knots: the search's state in memory. -/
namespace Go.Proofs.Ytjggjhgbobmkhaa
open Go.RowKit
set_option linter.unusedVariables false
set_option linter.unusedSimpArgs false
def fI (n : Nat) (f : Nat → Nat) : List Value := (List.range n).map fun v => Value.int .i64 (f v : Int)
def fB (n : Nat) (f : Nat → Bool) : List Value := (List.range n).map fun v => Value.bool (f v)
theorem fI_len (n : Nat) (f : Nat → Nat) : (fI n f).length = n := by simp [fI]
theorem fB_len (n : Nat) (f : Nat → Bool) : (fB n f).length = n := by simp [fB]
theorem fI_get {n v : Nat} {f : Nat → Nat} (h : v < n) : (fI n f)[v]? = some (.int .i64 (f v : Int)) := by simp [fI, h]
theorem fB_get {n v : Nat} {f : Nat → Bool} (h : v < n) : (fB n f)[v]? = some (.bool (f v)) := by simp [fB, h]
theorem range_setF {α : Type} (h : Nat → α) (n v : Nat) (x : α) : ((List.range n).map h).set v x = (List.range n).map (setF h v x) := by
  apply List.ext_getElem?
  intro i
  rw [List.getElem?_set]
  by_cases e : v = i
  · subst e
    by_cases hv : v < n
    · simp [hv, setF]
    · simp [hv]
  · by_cases hi : i < n
    · rw [if_neg e]
      have : i ≠ v := fun e2 => e e2.symm
      simp [hi, setF, this]
    · rw [if_neg e]
      simp [hi]
theorem fI_set (n : Nat) (f : Nat → Nat) (v x : Nat) : (fI n f).set v (.int .i64 (x : Int)) = fI n (setF f v x) := by
  unfold fI
  rw [range_setF]
  congr 1
  funext j
  unfold setF
  split <;> rfl
theorem fB_set (n : Nat) (f : Nat → Bool) (v : Nat) (x : Bool) : (fB n f).set v (.bool x) = fB n (setF f v x) := by
  unfold fB
  rw [range_setF]
  congr 1
  funext j
  unfold setF
  split <;> rfl
/-- Where the search's things lie. -/
structure KC where
  n : Nat
  A : Option Addr
  c : Nat
  gT : Nat
  gi : Nat
  gl : Nat
  gn : Nat
  go : Nat
  base : Nat
def kbox (c : KC) (s : TS) (vk vn : Value) : List Value :=
  [.slice c.A c.n c.c, .slice (some ⟨c.gi, 0, none⟩) c.n c.n, .slice (some ⟨c.gl, 0, none⟩) c.n c.n, .slice (some ⟨c.gn, 0, none⟩) c.n c.n, vk, .slice (some ⟨c.go, 0, none⟩) c.n c.n, .int .i64 (s.cnt : Int), vn]
def knI (kn : List (List Nat)) : List (List Int) := kn.map fun l => l.map fun (x : Nat) => (x : Int)
/-- Each owner's fact. 0 the search itself; 1 index; 2 low; 3 on; 4 of; 5 the stack; 6 the knots. -/
def kcomp (c : KC) (s : TS) (vk vn : Value) : Nat → List Nat → World → Prop
  | 0 => fun fp w => fp = [c.gT] ∧ w.heap[c.gT]? = some (.cells (kbox c s vk vn).toArray 98 (0, 0))
  | 1 => fun fp w => fp = [c.gi] ∧ w.heap[c.gi]? = some (.cells (fI c.n s.idx).toArray 3 (0, 0))
  | 2 => fun fp w => fp = [c.gl] ∧ w.heap[c.gl]? = some (.cells (fI c.n s.low).toArray 3 (0, 0))
  | 3 => fun fp w => fp = [c.gn] ∧ w.heap[c.gn]? = some (.cells (fB c.n s.on).toArray 4 (0, 0))
  | 4 => fun fp w => fp = [c.go] ∧ w.heap[c.go]? = some (.cells (fI c.n s.of).toArray 3 (0, 0))
  | 5 => fun fp w => fp = vk.ownBlock.toList ∧ w.ownsRow c.base 3 1 vk s.stk.length (vi s.stk)
  | 6 => fun fp w => ∃ bs, fp = vn.ownBlock.toList ++ bs ∧ GRow 1 dInts 31 c.base w vn (knI s.kn) bs
  | _ => fun _ _ => True
structure KS (c : KC) (O : Nat → Nat) (w : World) (s : TS) (vk vn : Value) : Prop where
  all : All O w (kcomp c s vk vn)
  low : ∀ b, b < c.base → O b = 99
  sz : c.base ≤ w.heap.size
section
variable {c : KC} {O : Nat → Nat} {w w1 : World} {s : TS} {vk vn : Value}
theorem KS.up (h : KS c O w s vk vn) (hb : Below w.heap.size w w1) (k : Nat) : KS c (newO O w.heap.size k) w1 s vk vn :=
  ⟨h.all.up hb k, fun b hlt => by rw [newO_old (by have := h.sz; omega)]; exact h.low b hlt, Nat.le_trans h.sz hb.size⟩
theorem KS.box (h : KS c O w s vk vn) : w.heap[c.gT]? = some (.cells (kbox c s vk vn).toArray 98 (0, 0)) ∧ O c.gT = 0 := by
  obtain ⟨fp, ⟨e, h1⟩, h2⟩ := (h.all 0).now
  exact ⟨h1, (h2 c.gT (by rw [e]; simp)).1⟩
theorem KS.bi (h : KS c O w s vk vn) : w.heap[c.gi]? = some (.cells (fI c.n s.idx).toArray 3 (0, 0)) ∧ O c.gi = 1 := by
  obtain ⟨fp, ⟨e, h1⟩, h2⟩ := (h.all 1).now
  exact ⟨h1, (h2 c.gi (by rw [e]; simp)).1⟩
theorem KS.bl (h : KS c O w s vk vn) : w.heap[c.gl]? = some (.cells (fI c.n s.low).toArray 3 (0, 0)) ∧ O c.gl = 2 := by
  obtain ⟨fp, ⟨e, h1⟩, h2⟩ := (h.all 2).now
  exact ⟨h1, (h2 c.gl (by rw [e]; simp)).1⟩
theorem KS.bn (h : KS c O w s vk vn) : w.heap[c.gn]? = some (.cells (fB c.n s.on).toArray 4 (0, 0)) ∧ O c.gn = 3 := by
  obtain ⟨fp, ⟨e, h1⟩, h2⟩ := (h.all 3).now
  exact ⟨h1, (h2 c.gn (by rw [e]; simp)).1⟩
theorem KS.bo (h : KS c O w s vk vn) : w.heap[c.go]? = some (.cells (fI c.n s.of).toArray 3 (0, 0)) ∧ O c.go = 4 := by
  obtain ⟨fp, ⟨e, h1⟩, h2⟩ := (h.all 4).now
  exact ⟨h1, (h2 c.go (by rw [e]; simp)).1⟩
theorem KS.stack (h : KS c O w s vk vn) : w.ownsRow c.base 3 1 vk s.stk.length (vi s.stk) ∧ ∀ b, vk.ownBlock = some b → O b = 5 := by
  obtain ⟨fp, ⟨e, h1⟩, h2⟩ := (h.all 5).now
  exact ⟨h1, fun b hb => (h2 b (by rw [e, hb]; simp)).1⟩
theorem KS.knots (h : KS c O w s vk vn) : ∃ bs, GRow 1 dInts 31 c.base w vn (knI s.kn) bs ∧ (∀ b, vn.ownBlock = some b → O b = 6) ∧ ∀ b ∈ bs, O b = 6 := by
  obtain ⟨fp, ⟨bs, e, h1⟩, h2⟩ := (h.all 6).now
  exact ⟨bs, h1, fun b hb => (h2 b (by rw [e, hb]; simp)).1, fun b hb => (h2 b (by rw [e]; simp [hb])).1⟩
/-- A step from one state to the next one: what holds of each owner, and what others see. -/
theorem KS.next {O1 : Nat → Nat} {s1 : TS} {vk1 vn1 : Value} (h : KS c O w s vk vn) (ha : All O1 w1 (kcomp c s1 vk1 vn1)) (hs : Stp O O1 w w1) : KS c O1 w1 s1 vk1 vn1 :=
  ⟨ha, hs.low h.low h.sz, Nat.le_trans h.sz hs.size⟩
end
/-! ### steps by owners -/
section
variable {O O1 : Nat → Nat} {k g : Nat} {w w1 w2 : World} {P : List Nat → World → Prop} {f : Nat → List Nat → World → Prop}
/-- All facts, and how the world came of an elder one. -/
structure KA (O : Nat → Nat) (w : World) (O1 : Nat → Nat) (w1 : World) (f : Nat → List Nat → World → Prop) : Prop where
  all : All O1 w1 f
  stp : Stp O O1 w w1
theorem KA.start (h : All O w f) : KA O w O w f := ⟨h, Stp.refl _ _⟩
theorem KA.up (h : KA O w O1 w1 f) (hb : Below w1.heap.size w1 w2) (k : Nat) : KA O w (newO O1 w1.heap.size k) w2 f := ⟨h.all.up hb k, h.stp.trans (Stp.up hb k)⟩
theorem KA.put {rb fp : List Nat} (h : KA O w O1 w1 f) (h5 : k < 50 ∨ 100 ≤ k) (hk : Kept rb w1 w2) (hr : ∀ b ∈ rb, b < w1.heap.size → O1 b = k) (hfp : ∀ b ∈ fp, (b < w1.heap.size → O1 b = k) ∧ b < w2.heap.size) (hP : ∀ w', (∀ b ∈ fp, w'.heap[b]? = w2.heap[b]?) → P fp w') : KA O w (newO O1 w1.heap.size k) w2 (updF f k P) :=
  ⟨h.all.put hk hr hfp hP, h.stp.trans (Stp.kept hk hr h5 k)⟩
theorem KA.putB {cs : List Value} {t : TypeId} (h : KA O w O1 w1 f) (h5 : k < 50 ∨ 100 ≤ k) (hp : Put w1 w2 g cs t) (hO : O1 g = k) (hP : ∀ w', w'.heap[g]? = some (.cells cs.toArray t (0, 0)) → P [g] w') : KA O w (newO O1 w1.heap.size k) w2 (updF f k P) :=
  h.put h5 (rb := [g]) (fp := [g]) (Kept.put (Kept.refl _ _) hp (.inl (by simp))) (by simpa using fun _ => hO) (by simpa using ⟨fun _ => hO, blk_lt hp.blk⟩) fun w' hw => hP w' ((hw g (by simp)).trans hp.blk)
theorem KA.imp {f' : Nat → List Nat → World → Prop} (h : KA O w O1 w1 f) (hi : ∀ j fp w, f j fp w → f' j fp w) : KA O w O1 w1 f' := ⟨h.all.imp hi, h.stp⟩
end
end Go.Proofs.Ytjggjhgbobmkhaa

/- The library's sort at []int. -/
set_option linter.unusedVariables false
set_option maxRecDepth 100000
namespace Go.Proofs
open Go.Shelf
def Try.lays189_ren : Go.Shelf.Ren := ⟨fun | 189 => 65 | 125 => 68 | 257 => 67 | 128 => 79 | 129 => 80 | 294 => 70 | 295 => 71 | 296 => 72 | 297 => 73 | 298 => 74 | 299 => 75 | 216 => 76 | 300 => 77 | 301 => 78 | 328 => 81 | 329 => 82 | 330 => 83 | 331 => 84 | 332 => 85 | 215 => 86 | 343 => 87 | n => n, fun | 28 => 31 | 3 => 3 | 46 => 102 | 0 => 0 | 51 => 129 | 53 => 80 | 4 => 4 | 183 => 122 | 182 => 121 | 131 => 69 | 5 => 5 | 9 => 9 | 218 => 130 | 222 => 134 | 228 => 136 | 229 => 137 | n => n, fun | n => n⟩
theorem Try.lays189 : Go.Proofs.Lays.n189 Try.prog Try.lays189_ren := {
  mixed := by kernel_rfl
  f125 := Try.func68.trans (congrArg some (by kernel_rfl))
  f128 := Try.func79.trans (congrArg some (by kernel_rfl))
  f129 := Try.func80.trans (congrArg some (by kernel_rfl))
  f189 := Try.func65.trans (congrArg some (by kernel_rfl))
  f215 := Try.func86.trans (congrArg some (by kernel_rfl))
  f216 := Try.func76.trans (congrArg some (by kernel_rfl))
  f257 := Try.func67.trans (congrArg some (by kernel_rfl))
  f294 := Try.func70.trans (congrArg some (by kernel_rfl))
  f295 := Try.func71.trans (congrArg some (by kernel_rfl))
  f296 := Try.func72.trans (congrArg some (by kernel_rfl))
  f297 := Try.func73.trans (congrArg some (by kernel_rfl))
  f298 := Try.func74.trans (congrArg some (by kernel_rfl))
  f299 := Try.func75.trans (congrArg some (by kernel_rfl))
  f300 := Try.func77.trans (congrArg some (by kernel_rfl))
  f301 := Try.func78.trans (congrArg some (by kernel_rfl))
  f328 := Try.func81.trans (congrArg some (by kernel_rfl))
  f329 := Try.func82.trans (congrArg some (by kernel_rfl))
  f330 := Try.func83.trans (congrArg some (by kernel_rfl))
  f331 := Try.func84.trans (congrArg some (by kernel_rfl))
  f332 := Try.func85.trans (congrArg some (by kernel_rfl))
  f343 := Try.func87.trans (congrArg some (by kernel_rfl))
  t0 := Try.underlying0
  a0 := Try.isAgg0
  z0 := Try.sizeOf0
  v0 := Try.zeroValue0
  t3 := Try.underlying3
  a3 := Try.isAgg3
  z3 := Try.sizeOf3
  v3 := Try.zeroValue3
  t4 := Try.underlying4
  a4 := Try.isAgg4
  z4 := Try.sizeOf4
  v4 := Try.zeroValue4
  t5 := Try.underlying5
  a5 := Try.isAgg5
  z5 := Try.sizeOf5
  v5 := Try.zeroValue5
  t9 := Try.underlying9
  a9 := Try.isAgg9
  z9 := Try.sizeOf9
  v9 := Try.zeroValue9
  t28 := Try.underlying31
  a28 := Try.isAgg31
  z28 := Try.sizeOf31
  v28 := Try.zeroValue31
  t46 := Try.underlying102
  a46 := Try.isAgg102
  z46 := Try.sizeOf102
  v46 := Try.zeroValue102
  t51 := Try.underlying129
  a51 := Try.isAgg129
  z51 := Try.sizeOf129
  v51 := Try.zeroValue129
  t53 := Try.underlying80
  a53 := Try.isAgg80
  z53 := Try.sizeOf80
  v53 := Try.zeroValue80
  t131 := Try.underlying69
  a131 := Try.isAgg69
  z131 := Try.sizeOf69
  v131 := Try.zeroValue69
  t182 := Try.underlying121
  a182 := Try.isAgg121
  z182 := Try.sizeOf121
  v182 := Try.zeroValue121
  t183 := Try.underlying122
  a183 := Try.isAgg122
  z183 := Try.sizeOf122
  v183 := Try.zeroValue122
  t218 := Try.underlying130
  a218 := Try.isAgg130
  z218 := Try.sizeOf130
  v218 := Try.zeroValue130
  t222 := Try.underlying134
  a222 := Try.isAgg134
  z222 := Try.sizeOf134
  v222 := Try.zeroValue134
  t228 := Try.underlying136
  a228 := Try.isAgg136
  z228 := Try.sizeOf136
  v228 := Try.zeroValue136
  t229 := Try.underlying137
  a229 := Try.isAgg137
  z229 := Try.sizeOf137
  v229 := Try.zeroValue137 }
open Go.Sort Go.RowKit in
theorem Try.slices_Sort_int (blk off cap : Nat) (zs : List Int) (w : World) (hH : Holds (Value.int .i64) w blk off zs.toArray) (hblk : blk < w.heap.size) (hsz : zs.length < 4611686018427387904) :
    Calls Try.prog 65 #[.slice (some ⟨blk, off, none⟩) zs.length cap] w fun e w' =>
      e = .returned (.tuple #[]) ∧ ∃ n os, w' = grow (putRow (Value.int .i64) (Sort.ahead w n) blk off (zs.mergeSort fun x y => decide (x ≤ y)).toArray) os := Any.slices_Sort_int Try.lays189 blk off cap zs w hH hblk hsz


theorem Try.slices_Sort_int_none (p : Option Addr) (cap : Nat) (w : World) :
    Calls Try.prog 65 #[.slice p 0 cap] w fun e w' => e = .returned (.tuple #[]) ∧ w' = w := Any.slices_Sort_int_none Try.lays189 p cap w
end Go.Proofs
namespace Go.Proofs.Ytjggjhgbobmkhaa
open Go.RowKit
set_option linter.unusedSimpArgs false
def srt (xs : List Int) : List Int := xs.mergeSort fun x y => decide (x ≤ y)
/-- A row of the call's own, sorted in place. -/
theorem sortOwn {w : World} {base : Nat} {v : Value} {xs : List Int} (h : w.ownsRow base 3 1 v xs.length (xs.map (Value.int .i64))) (hx : xs.length < 4611686018427387904) :
    Calls Try.prog 65 #[v] w fun e w' => e = .returned (.tuple #[]) ∧ w.grownBy w' v.ownBlock ∧ w'.ownsRow base 3 1 v xs.length ((srt xs).map (Value.int .i64)) := by
  rcases h.2 with ⟨h0, h1⟩ | ⟨g, cap, cur, hv, hg, hb, hn, hcap, hs, htk⟩
  · have hl : xs = [] := List.length_eq_zero_iff.1 h1
    have hs : srt xs = xs := by rw [hl]; unfold srt; exact List.mergeSort_nil
    rw [hs, h0]
    rw [h0] at h
    refine (Try.slices_Sort_int_none none 0 w).mono ?_
    rintro e w' ⟨he, hw⟩
    rw [hw]
    exact ⟨he, grown_refl _ _, h⟩
  · rw [hv]
    have hlt : g < w.heap.size := (Array.getElem?_eq_some_iff.1 hb).1
    refine (Try.slices_Sort_int g 0 cap xs w (holds_of_blockI hb (by simpa using htk)) hlt hx).mono ?_
    rintro e w' ⟨he, n, os, rfl⟩
    have hlen : (srt xs).length = xs.length := by unfold srt; exact List.length_mergeSort _
    exact ⟨he, grownBy_sortedI _, ownsRow_sortedI hlen hg hb hn hcap hs⟩
end Go.Proofs.Ytjggjhgbobmkhaa
