/- More steps: remainders, quotients, conversions, results that lie in memory, tails of drawn regions. -/
import Derived.Test.YtmlepfngcpekiaaE5
import Derived.Test.YtmlepfngcpekiaaEQ
namespace Go.Proofs.Ytmlepfngcpekiaa
open Go.RowKit
set_option linter.unusedVariables false
set_option linter.unusedSimpArgs false
/-- A number that the kind holds. -/
def inK : IntKind → Int → Prop
  | .i8, n => -128 ≤ n ∧ n ≤ 127
  | .i16, n => -32768 ≤ n ∧ n ≤ 32767
  | .i32, n => -2147483648 ≤ n ∧ n ≤ 2147483647
  | .i64, n => -9223372036854775808 ≤ n ∧ n ≤ 9223372036854775807
  | .u8, n => 0 ≤ n ∧ n ≤ 255
  | .u16, n => 0 ≤ n ∧ n ≤ 65535
  | .u32, n => 0 ≤ n ∧ n ≤ 4294967295
  | .u64, n => 0 ≤ n ∧ n ≤ 18446744073709551615
theorem inK_wrap {k : IntKind} {n : Int} (h : inK k n) : k.wrap n = n := by
  cases k <;> simp only [inK] at h
  · exact IntWalk.i8_in n h
  · exact IntWalk.i16_in n h
  · exact IntWalk.i32_in n h
  · exact IntWalk.i64_in n h
  · exact IntWalk.u8_in n h
  · exact IntWalk.u16_in n h
  · exact IntWalk.u32_in n h
  · exact IntWalk.u64_in n h
def convT (T : Nat → Option TI) (s t : Nat) (k : IntKind) : Bool := match T s, T t with
  | some _, some ⟨.int k', _, _, _⟩ => kEq k' k
  | _, _ => false
section
variable {P : Program} {T : Nat → Option TI} {n : Nat} {Q : Post} {F : Fm} {w : World} {ops : Array Oper} {rest : List Oper} {o : Oper} {K : Fm → Prop}
theorem conv_run (hT : TabOk P T) {s t : TypeId} {x : Operand} {ki k : IntKind} {a : Int} (hop : o.op = .convert s t x) (hx : ev F x = .int ki a) (h1 : convT T s t k = true) : (execOp (ev F) o).run P w = .ok (.value (.int k (k.wrap a))) w := by
  unfold convT at h1
  split at h1
  · rename_i i1 k' sz by_ z e1 e2
    have := kEq_eq h1
    subst this
    have h1 := T_u hT e1
    have h2 := T_u hT e2
    simp [execOp, hop, convert, run_und h1, run_und h2, hx, Conv.intToInt]
  · cases h1
theorem wl_cv (hT : TabOk P T) {s t : TypeId} {x : Operand} {ki : IntKind} (k : IntKind) {a : Int} (hop : o.op = .convert s t x) (hx : ev F x = .int ki a) (h1 : convT T s t k = true) (hi : inK k a) (hg : o.guard = none) {d : Nat} (hd : o.dst = some d) (hn : Nat.blt d n = true)
    (kk : wl P n ops rest Q (upd F d (.int k a)) w) : wl P n ops (o :: rest) Q F w :=
  wl_val hg hd hn (by rw [conv_run hT hop hx h1, inK_wrap hi]) kk
theorem wl_cvw (hT : TabOk P T) {s t : TypeId} {x : Operand} {ki : IntKind} (k : IntKind) {a : Int} (hop : o.op = .convert s t x) (hx : ev F x = .int ki a) (h1 : convT T s t k = true) (hg : o.guard = none) {d : Nat} (hd : o.dst = some d) (hn : Nat.blt d n = true)
    (kk : wl P n ops rest Q (upd F d (.int k (k.wrap a))) w) : wl P n ops (o :: rest) Q F w :=
  wl_val hg hd hn (conv_run hT hop hx h1) kk
theorem wq_cv (hT : TabOk P T) {s t : TypeId} {x : Operand} {ki : IntKind} (k : IntKind) {a : Int} (hop : o.op = .convert s t x) (hx : ev F x = .int ki a) (h1 : convT T s t k = true) (hi : inK k a) (hg : o.guard = none) {d : Nat} (hd : o.dst = some d) (hn : Nat.blt d n = true)
    (kk : wq P n ops w rest K (upd F d (.int k a))) : wq P n ops w (o :: rest) K F :=
  wq_val hg hd hn (fun _ _ => by rw [conv_run hT hop hx h1, inK_wrap hi]) kk
theorem wq_cvw (hT : TabOk P T) {s t : TypeId} {x : Operand} {ki : IntKind} (k : IntKind) {a : Int} (hop : o.op = .convert s t x) (hx : ev F x = .int ki a) (h1 : convT T s t k = true) (hg : o.guard = none) {d : Nat} (hd : o.dst = some d) (hn : Nat.blt d n = true)
    (kk : wq P n ops w rest K (upd F d (.int k (k.wrap a)))) : wq P n ops w (o :: rest) K F :=
  wq_val hg hd hn (fun _ _ => conv_run hT hop hx h1) kk
theorem rem_run {x y : Operand} {xt yt : TypeId} {ki : IntKind} {a b : Int} (hop : o.op = .binOp .rem xt x y yt) (hx : ev F x = .int ki a) (hy : ev F y = .int ki b) (h0 : 0 ≤ a) (h1 : 0 < b) : (execOp (ev F) o).run P w = .ok (.value (.int ki (a % b))) w := by
  have hb : ¬ b = 0 := by omega
  simp [execOp, hop, hx, hy, eqGuard, binOp, Op.intArith, Op.intDiv, hb, Int.tmod_eq_emod_of_nonneg h0]
theorem rem_facts {a b : Int} (h0 : 0 ≤ a) (h1 : 0 < b) : 0 ≤ a % b ∧ a % b < b ∧ a % b ≤ a := ⟨Int.emod_nonneg _ (by omega), Int.emod_lt_of_pos _ h1, Int.emod_le _ _ h0⟩
where
  Int.emod_le (a b : Int) (h0 : 0 ≤ a) : a % b ≤ a := by
    rcases Int.le_total 0 b with hb | hb
    · have h1 := Int.emod_add_mul_ediv a b
      have h2 : 0 ≤ a / b := Int.ediv_nonneg h0 hb
      have h3 : 0 ≤ b * (a / b) := Int.mul_nonneg hb h2
      omega
    · have h1 := Int.emod_add_mul_ediv a b
      have h2 : a / b ≤ 0 := by
        have := Int.ediv_neg a (-b)
        rw [Int.neg_neg] at this
        have h3 : 0 ≤ a / (-b) := Int.ediv_nonneg h0 (by omega)
        omega
      have h3 : 0 ≤ b * (a / b) := by
        have := Int.mul_nonneg (show 0 ≤ -b by omega) (show 0 ≤ -(a / b) by omega)
        rwa [Int.neg_mul_neg] at this
      omega
theorem wl_rem {x y : Operand} {xt yt : TypeId} {ki : IntKind} {a b : Int} (hop : o.op = .binOp .rem xt x y yt) (hx : ev F x = .int ki a) (hy : ev F y = .int ki b) (hg : o.guard = none) {d : Nat} (hd : o.dst = some d) (hn : Nat.blt d n = true) (h0 : 0 ≤ a) (h1 : 0 < b)
    (k : ∀ r, Kp (r = a % b) → 0 ≤ r → r < b → r ≤ a → wl P n ops rest Q (upd F d (.int ki r)) w) : wl P n ops (o :: rest) Q F w :=
  wl_val hg hd hn (rem_run hop hx hy h0 h1) (k _ ⟨rfl⟩ (rem_facts h0 h1).1 (rem_facts h0 h1).2.1 (rem_facts h0 h1).2.2)
theorem wq_rem {x y : Operand} {xt yt : TypeId} {ki : IntKind} {a b : Int} (hop : o.op = .binOp .rem xt x y yt) (hx : ev F x = .int ki a) (hy : ev F y = .int ki b) (hg : o.guard = none) {d : Nat} (hd : o.dst = some d) (hn : Nat.blt d n = true) (h0 : 0 ≤ a) (h1 : 0 < b)
    (k : ∀ r, Kp (r = a % b) → 0 ≤ r → r < b → r ≤ a → wq P n ops w rest K (upd F d (.int ki r))) : wq P n ops w (o :: rest) K F :=
  wq_val hg hd hn (fun _ _ => rem_run hop hx hy h0 h1) (k _ ⟨rfl⟩ (rem_facts h0 h1).1 (rem_facts h0 h1).2.1 (rem_facts h0 h1).2.2)
theorem quo_run {x y : Operand} {xt yt : TypeId} {ki : IntKind} {a b : Int} (hop : o.op = .binOp .quo xt x y yt) (hx : ev F x = .int ki a) (hy : ev F y = .int ki b) (h0 : 0 ≤ a) (h1 : 0 < b) (hi : inK ki (a / b)) : (execOp (ev F) o).run P w = .ok (.value (.int ki (a / b))) w := by
  have hb : ¬ b = 0 := by omega
  simp [execOp, hop, hx, hy, eqGuard, binOp, Op.intArith, Op.intDiv, hb, Int.tdiv_eq_ediv_of_nonneg h0, inK_wrap hi]
theorem wl_quo {x y : Operand} {xt yt : TypeId} {ki : IntKind} {a b : Int} (hop : o.op = .binOp .quo xt x y yt) (hx : ev F x = .int ki a) (hy : ev F y = .int ki b) (hg : o.guard = none) {d : Nat} (hd : o.dst = some d) (hn : Nat.blt d n = true) (h0 : 0 ≤ a) (h1 : 0 < b) (hi : inK ki (a / b))
    (k : wl P n ops rest Q (upd F d (.int ki (a / b))) w) : wl P n ops (o :: rest) Q F w := wl_val hg hd hn (quo_run hop hx hy h0 h1 hi) k
theorem wq_quo {x y : Operand} {xt yt : TypeId} {ki : IntKind} {a b : Int} (hop : o.op = .binOp .quo xt x y yt) (hx : ev F x = .int ki a) (hy : ev F y = .int ki b) (hg : o.guard = none) {d : Nat} (hd : o.dst = some d) (hn : Nat.blt d n = true) (h0 : 0 ≤ a) (h1 : 0 < b) (hi : inK ki (a / b))
    (k : wq P n ops w rest K (upd F d (.int ki (a / b)))) : wq P n ops w (o :: rest) K F := wq_val hg hd hn (fun _ _ => quo_run hop hx hy h0 h1 hi) k
theorem wq_mul {x y : Operand} {xt yt : TypeId} {a b : Int} (hop : o.op = .binOp .mul xt x y yt) (hx : ev F x = .int .i64 a) (hy : ev F y = .int .i64 b) (hg : o.guard = none) {d : Nat} (hd : o.dst = some d) (hn : Nat.blt d n = true)
    (h1 : -9223372036854775808 ≤ a * b) (h2 : a * b ≤ 9223372036854775807) (k : wq P n ops w rest K (upd F d (.int .i64 (a * b)))) : wq P n ops w (o :: rest) K F :=
  wq_val hg hd hn (fun _ _ => by simp [execOp, hop, hx, hy, eqGuard, binOp, Op.intArith, wrap_in h1 h2]) k
/-- A product of two that aren't written out: its bounds are had of theirs. -/
theorem mul_bounds {a b m k : Int} (ha : 0 ≤ a ∧ a ≤ m) (hb : 0 ≤ b ∧ b ≤ k) : 0 ≤ a * b ∧ a * b ≤ m * k :=
  ⟨Int.mul_nonneg ha.1 hb.1, Int.mul_le_mul ha.2 hb.2 hb.1 (by omega)⟩

/-! ### a result that lies in memory -/
theorem fin_c (hT : TabOk P T) {fn : Func} {R : Ending → World → Prop} {p : Tmp} {ty t' : TypeId} {g : Nat} {cs : List Value} {fr : Nat × Nat} (hr : fn.results = #[.cell p ty]) (hb : w.heap[g]? = some (.cells cs.toArray t' fr)) (hv : F p = .pointer (some ⟨g, 0, none⟩)) (h1 : aggT T ty cs.length = true) (h : R (.returned (.agg cs.toArray)) w) : Fin P fn R F w := by
  unfold Fin retQ
  intro tmps ht
  refine ⟨.agg cs.toArray, ?_, h⟩
  have h2 := aggT_run (P := P) (w := w) hT h1
  have h3 := run_loadCells (P := P) cs 0 #[] (cellsAt_blk hb cs 0 0 (by simp))
  have h4 := ht p
  rw [hv] at h4
  have h5 : tmps[p]?.getD undef = .pointer (some ⟨g, 0, none⟩) := by simpa using h4
  unfold results
  simp [hr, h5, asAddr, loadVar, h2, loadCells, h3]

/-! ### a drawn region with a tail -/
structure wa (P : Program) (n : Nat) (o : Oper) (F : Fm) (w : World) (K : Fm → World → Prop) : Prop where
  go : ∃ v w2, (execOp (ev F) o).run P w = .ok (.value v) w2 ∧ Below w.heap.size w w2 ∧ dstOk n o.dst = true ∧ K (updO F o.dst v) w2
theorem wa_alloc (hT : TabOk P T) {K : Fm → World → Prop} {t : TypeId} {i : TI} {cs : List Value} (hop : o.op = .alloc t) (hi : T t = some i) (hv : i.zero.cells = cs.toArray) {d : Nat} (hd : o.dst = some d) (hn : Nat.blt d n = true)
    (k : ∀ g w1, New w w1 g cs t → K (upd F d (.pointer (some ⟨g, 0, none⟩))) w1) : wa P n o F w K := by
  obtain ⟨j, hj, hz, _, _⟩ := T_i hT hi
  have hnw := new_alloc w cs t
  refine ⟨_, _, ?_, hnw.below, by rw [hd]; exact hn, by rw [hd]; exact k _ _ hnw⟩
  simp [execOp, hop, Instr.alloc, zeroValue, typeInfo, hj, hz, newVar, newRow, newObj, Sem.run, hv]
theorem wa_bs (hT : TabOk P T) (e s : Nat) {K : Fm → World → Prop} {t : TypeId} {len : Nat} {parts : Array (Nat × Operand)} {i : TI} {z cs : List Value} (hop : o.op = .buildSlice t len parts) (h1 : sliceT T t e s = true) (hi : T e = some i) (hz : i.zero.cells = z.toArray) (hzl : Nat.beq z.length s = true) (hlen : Nat.ble (len * s) 16777216 = true)
    (hc : bld F (fun i => some (i * s, s)) parts.toList (List.replicate len z).flatten = some cs) {d : Nat} (hd : o.dst = some d) (hn : Nat.blt d n = true)
    (k : ∀ g w1, New w w1 g cs e → K (upd F d (.slice (some ⟨g, 0, none⟩) len len)) w1) : wa P n o F w K := by
  have hnw := new_alloc w cs e
  refine ⟨.slice (some ⟨w.heap.size, 0, none⟩) len len, _, ?_, hnw.below, by rw [hd]; exact hn, by rw [hd]; exact k _ _ hnw⟩
  exact bs_run hT e s hop h1 hi hz hzl hlen hc
theorem wc_qt {id : Nat} {l : List Oper} (m : Nat) {om : Oper} (hT : TabOk P T) (hm : P.follows .mixedOrders = true) (hB : tailB .any l.toArray m = true) (ho : l[m]? = some om) (hgd : om.guard = none)
    (h : runQ P T n l.toArray w (l.take m) (fun F' => ∀ w1, Below w.heap.size w w1 → wa P n om F' w1 fun F2 w2 => ∀ W, Below w2.heap.size w2 W → runG P T n l.toArray (l.drop (m + 1)) Q F2 W) F) : wc P n (.region id l.toArray true) Q F w := by
  unfold wc
  intro a ha
  refine wp_region_tail m hm hB ho hgd (wpQB_mono ?_ ((run_q hT h).go a ha))
  rintro a' ⟨F', h2, h3⟩ w1 hw1
  obtain ⟨v, w2, h4, h5, h6, h7⟩ := (h3 w1 hw1).go
  refine ⟨v, w2, by rw [h2.eval]; exact h4, h5, fun W hW => ?_⟩
  have := run_l hT (h7 W hW)
  unfold wl at this
  exact this _ (h2.put h6 v)
/-- Heads that read alone; then the rest in its order. -/
theorem wc_qu {id : Nat} {l : List Oper} (m : Nat) (hT : TabOk P T) (hm : P.follows .mixedOrders = true) (hB : Region.lexTailB .any l.toArray m = true)
    (h : runQ P T n l.toArray w (l.take m) (fun F' => ∀ W, Below w.heap.size w W → runG P T n l.toArray (l.drop m) Q F' W) F) : wc P n (.region id l.toArray true) Q F w := by
  unfold wc
  intro a ha
  refine wp_region_tail0 m hm hB (wpQB_mono ?_ ((run_q hT h).go a ha))
  rintro a' ⟨F', h2, h3⟩ W hW
  have := run_l hT (h3 W hW)
  unfold wl at this
  exact this _ h2
end
end Go.Proofs.Ytmlepfngcpekiaa
