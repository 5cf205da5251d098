/- Floats: how they compare, their signs; the functions of math that are asked here. -/
import Derived.Test.YtkjbkalakafnlaaDoorK23
import Derived.Test.YtkjbkalakafnlaaDoorFO04
import Derived.Test.YtkjbkalakafnlaaDoorE10
import Derived.Laws.Concat
import Derived.Laws.Strings2
namespace Go.Proofs.YtkjbkalakafnlaaDoor
open Go.RowKit
set_option linter.unusedVariables false
set_option linter.unusedSimpArgs false
set_option maxRecDepth 100000
def fcmpV (op : BinOp) (a b : Nat) : Option Bool :=
  let c := F64.order a b
  match op with
  | .eql => some (c == some .eq)
  | .neq => some (c != some .eq)
  | .lss => some (c == some .lt)
  | .leq => some (c == some .lt || c == some .eq)
  | .gtr => some (c == some .gt)
  | .geq => some (c == some .gt || c == some .eq)
  | _ => none
section
variable {P : Program} {T : Nat → Option TI} {n : Nat} {Q : Post} {F : Fm} {w : World} {ops : Array Oper} {rest : List Oper} {o : Oper} {K : Fm → Prop} {C : World → Prop}
theorem fcmp_run {op : BinOp} {x y : Operand} {xt yt : TypeId} {a b : Nat} {r : Bool} (hr : fcmpV op a b = some r) (hop : o.op = .binOp op xt x y yt) (hx : ev F x = .float .f64 a) (hy : ev F y = .float .f64 b) : (execOp (ev F) o).run P w = .ok (.value (.bool r)) w := by
  cases op <;> simp only [fcmpV, Option.some.injEq, reduceCtorEq] at hr <;> subst hr <;> simp [execOp, hop, hx, hy, eqGuard, binOp, Op.floatCmp]
theorem wl_fcmp {op : BinOp} {x y : Operand} {xt yt : TypeId} {a b : Nat} {r : Bool} (hr : fcmpV op a b = some r) (hop : o.op = .binOp op xt x y yt) (hx : ev F x = .float .f64 a) (hy : ev F y = .float .f64 b) (hg : o.guard = none) {d : Nat} (hd : o.dst = some d) (hn : Nat.blt d n = true)
    (k : wl P n ops rest Q (upd F d (.bool r)) w) : wl P n ops (o :: rest) Q F w := wl_val hg hd hn (fcmp_run hr hop hx hy) k
theorem wl_fneg {x : Operand} {xt : TypeId} {a : Nat} (hop : o.op = .unOp .neg xt x) (hx : ev F x = .float .f64 a) (hg : o.guard = none) {d : Nat} (hd : o.dst = some d) (hn : Nat.blt d n = true)
    (k : wl P n ops rest Q (upd F d (.float .f64 (Op.negFloat .f64 a))) w) : wl P n ops (o :: rest) Q F w := by
  refine wl_val hg hd hn ?_ k
  simp [execOp, hop, hx, Op.unary]
def convI (T : Nat → Option TI) (s t : Nat) (k : IntKind) : Bool := match T s, T t with
  | some _, some ⟨.int k', _, _, _⟩ => kEq k k'
  | _, _ => false
theorem wl_fint (hT : TabOk P T) (k : IntKind) {s t : TypeId} {x : Operand} {a : Nat} {m : Int} (hm : floatToIntVal .f64 a k = some m) (hop : o.op = .convert s t x) (hx : ev F x = .float .f64 a) (h1 : convI T s t k = true) (hg : o.guard = none) {d : Nat} (hd : o.dst = some d) (hn : Nat.blt d n = true)
    (kk : wl P n ops rest Q (upd F d (.int k m)) w) : wl P n ops (o :: rest) Q F w := by
  refine wl_val hg hd hn ?_ kk
  unfold convI at h1
  split at h1
  · rename_i i1 k' sz by_ z e1 e2
    have hk := kEq_eq h1
    subst hk
    have h3 := T_u hT e1
    have h4 := T_u hT e2
    have := run_convert_float_int (P := P) (w := w) s t .f64 k a m (by rw [h3]; rfl) h4 hm
    simp [execOp, hop, hx, this]
  · cases h1
/-! ### strings -/
theorem wl_sadd {x y : Operand} {t yt : TypeId} {a b r : ByteArray} (hr : a ++ b = r) (hl : a.size + b.size ≤ 9223372036854775807) (hop : o.op = .binOp .add t x y yt) (hx : ev F x = .string a) (hy : ev F y = .string b) (hg : o.guard = none) {d : Nat} (hd : o.dst = some d) (hn : Nat.blt d n = true)
    (k : wl P n ops rest Q (upd F d (.string r)) w) : wl P n ops (o :: rest) Q F w := by
  refine wl_val hg hd hn ?_ k
  subst hr
  have := run_string_add_sum (P := P) (w := w) a b hl
  simp [execOp, hop, hx, hy, eqGuard, binOp_string_add, this]
theorem wl_sqq {x y : Operand} {t yt : TypeId} {a b : ByteArray} {r : Bool} (hr : (a.toList == b.toList) = r) (hop : o.op = .binOp .eql t x y yt) (hx : ev F x = .string a) (hy : ev F y = .string b) (hg : o.guard = none) {d : Nat} (hd : o.dst = some d) (hn : Nat.blt d n = true)
    (k : wl P n ops rest Q (upd F d (.bool r)) w) : wl P n ops (o :: rest) Q F w := by
  refine wl_val hg hd hn ?_ k
  subst hr
  simp [execOp, hop, hx, hy, eqGuard, binOp_string_eql]
def strT (T : Nat → Option TI) (t : Nat) : Bool := match T t with
  | some ⟨.string, _, _, _⟩ => true
  | _ => false
theorem strT_ok (hT : TabOk P T) {t : Nat} (h : strT T t = true) : P.underlying t = some .string := by
  unfold strT at h
  split at h
  · rename_i e1
    exact T_u hT e1
  · cases h
theorem wl_scut (hT : TabOk P T) {t : TypeId} {x lo hi : Operand} {s r : ByteArray} {ki kj : IntKind} {a b : Int} {i j : Nat} (ha : a = (i : Int)) (hb : b = (j : Int)) (hr : s.extract i j = r) (hij : i ≤ j) (hj : j ≤ s.size) (hop : o.op = .slice t x (some lo) (some hi) none) (hx : ev F x = .string s) (hlo : ev F lo = .int ki a) (hhi : ev F hi = .int kj b) (h1 : strT T t = true) (hg : o.guard = none) {d : Nat} (hd : o.dst = some d) (hn : Nat.blt d n = true)
    (k : wl P n ops rest Q (upd F d (.string r)) w) : wl P n ops (o :: rest) Q F w := by
  refine wl_val hg hd hn ?_ k
  subst ha hb hr
  have := run_slice_string (P := P) w t s ki kj (i : Int) (j : Int) (strT_ok hT h1) (by omega) (by omega) (by omega)
  have h2 := run_sliceAt_string (P := P) (w := w) t (.string s) (some (.int ki (i : Int))) (some (.int kj (j : Int))) none (strT_ok hT h1)
  simp [execOp, hop, hx, hlo, hhi, h2, this]
end
/-! ### what they come to -/
theorem rgB_lt (x : Nat) : rgB x < 9223372036854775808 := Nat.mod_lt _ (by omega)
theorem nan_is {x : Nat} (h : nanB x = true) : nanF x := by
  obtain ⟨s, t, e⟩ := read_nan (by simpa [nanB] using h)
  exact ⟨s, t, e⟩
theorem nan_of {x : Nat} (h : nanF x) : nanB x = true := by
  obtain ⟨s, t, e⟩ := h
  by_cases hn : 9218868437227405312 < rgB x
  · simp [nanB, hn]
  · rcases Nat.lt_or_eq_of_le (Nat.le_of_not_lt hn) with h1 | h1
    · obtain ⟨m, p, e1, _⟩ := read_num h1
      have e' : D64.read x = .nan s t := e
      rw [e1] at e'; cases e'
    · have e1 := read_inf h1
      have e' : D64.read x = .nan s t := e
      rw [e1] at e'; cases e'
/-- Where a float stands: what is no number ahead of all, both noughts apart. -/
def standF (x : Nat) : Int := if nanB x then -9223372036854775809 else if ngB x then -(rgB x : Int) - 1 else (rgB x : Int)
theorem order_nanL' {x y : Nat} (h : nanB x = true) : F64.order x y = none := order_nan (nan_is h)
theorem order_nanR' {x y : Nat} (h : nanB y = true) : F64.order x y = none := by
  obtain ⟨s, t, e⟩ := nan_is h
  have e' : F64.read y = .nan s t := e
  simp only [Ieee.Format.order, e']
  cases F64.read x <;> rfl
theorem cmp_key {x y : Nat} (hx : nanB x = false) (hy : nanB y = false) : F64.order x y = some (compare (keyF x) (keyF y)) := order_key hx hy
theorem cmp_ne_self (x : Nat) : fcmpV .neq x x = some (nanB x) := by
  unfold fcmpV
  cases h : nanB x with
  | true => rw [order_nanL' h]; rfl
  | false => rw [cmp_key h h]; simp [compare, compareOfLessAndEq]
theorem cmp_eq_self (x : Nat) : fcmpV .eql x x = some (!nanB x) := by
  unfold fcmpV
  cases h : nanB x with
  | true => rw [order_nanL' h]; rfl
  | false => rw [cmp_key h h]; simp [compare, compareOfLessAndEq]
theorem cmp_lss (x y : Nat) : fcmpV .lss x y = some (!nanB x && !nanB y && decide (keyF x < keyF y)) := by
  unfold fcmpV
  cases hx : nanB x with
  | true => rw [order_nanL' hx]; rfl
  | false =>
    cases hy : nanB y with
    | true => rw [order_nanR' hy]; rfl
    | false =>
      rw [cmp_key hx hy]
      simp only [compare, compareOfLessAndEq]
      by_cases h1 : keyF x < keyF y
      · simp [h1]
      · by_cases h2 : keyF x = keyF y <;> simp [h1, h2]
theorem cmp_eql (x y : Nat) : fcmpV .eql x y = some (!nanB x && !nanB y && decide (keyF x = keyF y)) := by
  unfold fcmpV
  cases hx : nanB x with
  | true => rw [order_nanL' hx]; rfl
  | false =>
    cases hy : nanB y with
    | true => rw [order_nanR' hy]; rfl
    | false =>
      rw [cmp_key hx hy]
      simp only [compare, compareOfLessAndEq]
      by_cases h1 : keyF x < keyF y
      · simp [h1]; omega
      · by_cases h2 : keyF x = keyF y <;> simp [h1, h2]
theorem cmp_gtr (x y : Nat) : fcmpV .gtr x y = some (!nanB x && !nanB y && decide (keyF y < keyF x)) := by
  unfold fcmpV
  cases hx : nanB x with
  | true => rw [order_nanL' hx]; rfl
  | false =>
    cases hy : nanB y with
    | true => rw [order_nanR' hy]; rfl
    | false =>
      rw [cmp_key hx hy]
      simp only [compare, compareOfLessAndEq]
      by_cases h1 : keyF x < keyF y
      · simp [h1]; omega
      · by_cases h2 : keyF x = keyF y
        · simp [h2]
        · simp [h1, h2]; omega
theorem cmp_geq (x y : Nat) : fcmpV .geq x y = some (!nanB x && !nanB y && decide (keyF y ≤ keyF x)) := by
  unfold fcmpV
  cases hx : nanB x with
  | true => rw [order_nanL' hx]; rfl
  | false =>
    cases hy : nanB y with
    | true => rw [order_nanR' hy]; rfl
    | false =>
      rw [cmp_key hx hy]
      simp only [compare, compareOfLessAndEq]
      by_cases h1 : keyF x < keyF y
      · simp [h1]
      · by_cases h2 : keyF x = keyF y
        · simp [h2]
        · simp [h1, h2]; omega
theorem cmp_leq (x y : Nat) : fcmpV .leq x y = some (!nanB x && !nanB y && decide (keyF x ≤ keyF y)) := by
  unfold fcmpV
  cases hx : nanB x with
  | true => rw [order_nanL' hx]; rfl
  | false =>
    cases hy : nanB y with
    | true => rw [order_nanR' hy]; rfl
    | false =>
      rw [cmp_key hx hy]
      simp only [compare, compareOfLessAndEq]
      by_cases h1 : keyF x < keyF y
      · simp [h1]; omega
      · by_cases h2 : keyF x = keyF y
        · simp [h2]
        · simp [h1, h2]; omega
theorem andNot64F (a b : Nat) : ∃ v : Nat, bits .andNot .u64 (a : Int) (b : Int) = (v : Int) ∧ v < 18446744073709551616 ∧ ∀ j, v.testBit j = (decide (j < 64) && (a.testBit j && !b.testBit j)) := by
  refine ⟨(BitVec.ofInt 64 (a : Int) &&& ~~~BitVec.ofInt 64 (b : Int)).toNat, ?_, BitVec.isLt _, fun j => ?_⟩
  · show IntKind.u64.wrap _ = _
    have := (BitVec.ofInt 64 (a : Int) &&& ~~~BitVec.ofInt 64 (b : Int)).isLt
    rw [IntKind.wrap_u64]
    show (((BitVec.ofInt 64 (a : Int) &&& ~~~BitVec.ofInt 64 (b : Int)).toNat : Nat) : Int) % 18446744073709551616 = _
    omega
  · rw [BitVec.testBit_toNat, BitVec.getLsbD_and, BitVec.getLsbD_not, BitVec.ofInt_natCast, BitVec.ofInt_natCast, BitVec.getLsbD_ofNat, BitVec.getLsbD_ofNat]
    by_cases h : j < 64 <;> simp [h]
theorem rg_andNot (x : Nat) : bits .andNot .u64 (x : Int) 9223372036854775808 = ((rgB x : Nat) : Int) := by
  obtain ⟨v, h1, h2, h3⟩ := andNot64F x 9223372036854775808
  rw [show ((9223372036854775808 : Nat) : Int) = (9223372036854775808 : Int) from rfl] at h1
  rw [h1]
  congr 1
  refine Nat.eq_of_testBit_eq fun j => ?_
  rw [h3, rgB, show 9223372036854775808 = 2 ^ 63 from rfl, Nat.testBit_mod_two_pow, Nat.testBit_two_pow]
  by_cases h : j < 63
  · simp [h, show j < 64 by omega, show ¬ 63 = j by omega]
  · by_cases h4 : j = 63 <;> simp [h, h4]; omega
end Go.Proofs.YtkjbkalakafnlaaDoor
