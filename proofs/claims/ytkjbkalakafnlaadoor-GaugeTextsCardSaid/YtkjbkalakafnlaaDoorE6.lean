/- More steps: remainders, quotients, conversions, results that lie in memory, tails of drawn regions. -/
import Derived.Test.YtkjbkalakafnlaaDoorE5
import Derived.Test.YtkjbkalakafnlaaDoorEQ
namespace Go.Proofs.YtkjbkalakafnlaaDoor
open Go.RowKit
set_option linter.unusedVariables false
set_option linter.unusedSimpArgs false
/-- A number that the kind holds. -/
def inK : IntKind → Int → Prop
  | .i8, n => -128 ≤ n ∧ n ≤ 127
  | .i16, n => -32768 ≤ n ∧ n ≤ 32767
  | .i32, n => -2147483648 ≤ n ∧ n ≤ 2147483647
  | .i64, n => -9223372036854775808 ≤ n ∧ n ≤ 9223372036854775807
  | .u8, n => 0 ≤ n ∧ n ≤ 255
  | .u16, n => 0 ≤ n ∧ n ≤ 65535
  | .u32, n => 0 ≤ n ∧ n ≤ 4294967295
  | .u64, n => 0 ≤ n ∧ n ≤ 18446744073709551615
theorem inK_wrap {k : IntKind} {n : Int} (h : inK k n) : k.wrap n = n := by
  cases k <;> simp only [inK] at h
  · exact IntWalk.i8_in n h
  · exact IntWalk.i16_in n h
  · exact IntWalk.i32_in n h
  · exact IntWalk.i64_in n h
  · exact IntWalk.u8_in n h
  · exact IntWalk.u16_in n h
  · exact IntWalk.u32_in n h
  · exact IntWalk.u64_in n h
def convT (T : Nat → Option TI) (s t : Nat) (k : IntKind) : Bool := match T s, T t with
  | some _, some ⟨.int k', _, _, _⟩ => kEq k' k
  | _, _ => false
def kindT (T : Nat → Option TI) (s t : Nat) : Option IntKind := match T s, T t with
  | some _, some ⟨.int k', _, _, _⟩ => some k'
  | _, _ => none
theorem kEq_refl (k : IntKind) : kEq k k = true := by cases k <;> rfl
theorem kindT_ok {T : Nat → Option TI} {s t : Nat} {k : IntKind} (h : kindT T s t = some k) : convT T s t k = true := by
  unfold kindT at h
  split at h
  · rename_i e1 e2
    cases h
    unfold convT
    rw [e1, e2]
    exact kEq_refl _
  · cases h
section
variable {P : Program} {T : Nat → Option TI} {n : Nat} {Q : Post} {F : Fm} {w : World} {ops : Array Oper} {rest : List Oper} {o : Oper} {K : Fm → Prop} {C : World → Prop}
theorem conv_run (hT : TabOk P T) {s t : TypeId} {x : Operand} {ki k : IntKind} {a : Int} (hop : o.op = .convert s t x) (hx : ev F x = .int ki a) (h1 : convT T s t k = true) : (execOp (ev F) o).run P w = .ok (.value (.int k (k.wrap a))) w := by
  unfold convT at h1
  split at h1
  · rename_i i1 k' sz by_ z e1 e2
    have := kEq_eq h1
    subst this
    have h1 := T_u hT e1
    have h2 := T_u hT e2
    simp [execOp, hop, convert, run_und h1, run_und h2, hx, Conv.intToInt]
  · cases h1
theorem wl_cv (hT : TabOk P T) {s t : TypeId} {x : Operand} {ki : IntKind} (k : IntKind) {a : Int} (hop : o.op = .convert s t x) (hx : ev F x = .int ki a) (h1 : convT T s t k = true) (hi : inK k a) (hg : o.guard = none) {d : Nat} (hd : o.dst = some d) (hn : Nat.blt d n = true)
    (kk : wl P n ops rest Q (upd F d (.int k a)) w) : wl P n ops (o :: rest) Q F w :=
  wl_val hg hd hn (by rw [conv_run hT hop hx h1, inK_wrap hi]) kk
theorem wl_cvw (hT : TabOk P T) {s t : TypeId} {x : Operand} {ki : IntKind} (k : IntKind) {a : Int} (hop : o.op = .convert s t x) (hx : ev F x = .int ki a) (h1 : convT T s t k = true) (hg : o.guard = none) {d : Nat} (hd : o.dst = some d) (hn : Nat.blt d n = true)
    (kk : wl P n ops rest Q (upd F d (.int k (k.wrap a))) w) : wl P n ops (o :: rest) Q F w :=
  wl_val hg hd hn (conv_run hT hop hx h1) kk
theorem wq_cv (hT : TabOk P T) {s t : TypeId} {x : Operand} {ki : IntKind} (k : IntKind) {a : Int} (hop : o.op = .convert s t x) (hx : ev F x = .int ki a) (h1 : convT T s t k = true) (hi : inK k a) (hg : o.guard = none) {d : Nat} (hd : o.dst = some d) (hn : Nat.blt d n = true)
    (kk : wq P n ops C rest K (upd F d (.int k a))) : wq P n ops C (o :: rest) K F :=
  wq_val hg hd hn (fun _ _ => by rw [conv_run hT hop hx h1, inK_wrap hi]) kk
theorem wq_cvw (hT : TabOk P T) {s t : TypeId} {x : Operand} {ki : IntKind} (k : IntKind) {a : Int} (hop : o.op = .convert s t x) (hx : ev F x = .int ki a) (h1 : convT T s t k = true) (hg : o.guard = none) {d : Nat} (hd : o.dst = some d) (hn : Nat.blt d n = true)
    (kk : wq P n ops C rest K (upd F d (.int k (k.wrap a)))) : wq P n ops C (o :: rest) K F :=
  wq_val hg hd hn (fun _ _ => conv_run hT hop hx h1) kk
theorem wl_cvA (hT : TabOk P T) {s t : TypeId} {x : Operand} {ki k : IntKind} {a : Int} (hop : o.op = .convert s t x) (hx : ev F x = .int ki a) (h1 : kindT T s t = some k) (hi : inK k a) (hg : o.guard = none) {d : Nat} (hd : o.dst = some d) (hn : Nat.blt d n = true)
    (kk : wl P n ops rest Q (upd F d (.int k a)) w) : wl P n ops (o :: rest) Q F w := wl_cv hT k hop hx (kindT_ok h1) hi hg hd hn kk
theorem wl_cvB (hT : TabOk P T) {s t : TypeId} {x : Operand} {ki k : IntKind} {a : Int} (hop : o.op = .convert s t x) (hx : ev F x = .int ki a) (h1 : kindT T s t = some k) (hg : o.guard = none) {d : Nat} (hd : o.dst = some d) (hn : Nat.blt d n = true)
    (kk : wl P n ops rest Q (upd F d (.int k (k.wrap a))) w) : wl P n ops (o :: rest) Q F w := wl_cvw hT k hop hx (kindT_ok h1) hg hd hn kk
theorem wq_cvA (hT : TabOk P T) {s t : TypeId} {x : Operand} {ki k : IntKind} {a : Int} (hop : o.op = .convert s t x) (hx : ev F x = .int ki a) (h1 : kindT T s t = some k) (hi : inK k a) (hg : o.guard = none) {d : Nat} (hd : o.dst = some d) (hn : Nat.blt d n = true)
    (kk : wq P n ops C rest K (upd F d (.int k a))) : wq P n ops C (o :: rest) K F := wq_cv hT k hop hx (kindT_ok h1) hi hg hd hn kk
theorem wq_cvB (hT : TabOk P T) {s t : TypeId} {x : Operand} {ki k : IntKind} {a : Int} (hop : o.op = .convert s t x) (hx : ev F x = .int ki a) (h1 : kindT T s t = some k) (hg : o.guard = none) {d : Nat} (hd : o.dst = some d) (hn : Nat.blt d n = true)
    (kk : wq P n ops C rest K (upd F d (.int k (k.wrap a)))) : wq P n ops C (o :: rest) K F := wq_cvw hT k hop hx (kindT_ok h1) hg hd hn kk
theorem rem_run {x y : Operand} {xt yt : TypeId} {ki : IntKind} {a b : Int} (hop : o.op = .binOp .rem xt x y yt) (hx : ev F x = .int ki a) (hy : ev F y = .int ki b) (h0 : 0 ≤ a) (h1 : 0 < b) : (execOp (ev F) o).run P w = .ok (.value (.int ki (a % b))) w := by
  have hb : ¬ b = 0 := by omega
  simp [execOp, hop, hx, hy, eqGuard, binOp, Op.intArith, Op.intDiv, hb, Int.tmod_eq_emod_of_nonneg h0]
theorem rem_facts {a b : Int} (h0 : 0 ≤ a) (h1 : 0 < b) : 0 ≤ a % b ∧ a % b < b ∧ a % b ≤ a := ⟨Int.emod_nonneg _ (by omega), Int.emod_lt_of_pos _ h1, Int.emod_le _ _ h0⟩
where
  Int.emod_le (a b : Int) (h0 : 0 ≤ a) : a % b ≤ a := by
    rcases Int.le_total 0 b with hb | hb
    · have h1 := Int.emod_add_mul_ediv a b
      have h2 : 0 ≤ a / b := Int.ediv_nonneg h0 hb
      have h3 : 0 ≤ b * (a / b) := Int.mul_nonneg hb h2
      omega
    · have h1 := Int.emod_add_mul_ediv a b
      have h2 : a / b ≤ 0 := by
        have := Int.ediv_neg a (-b)
        rw [Int.neg_neg] at this
        have h3 : 0 ≤ a / (-b) := Int.ediv_nonneg h0 (by omega)
        omega
      have h3 : 0 ≤ b * (a / b) := by
        have := Int.mul_nonneg (show 0 ≤ -b by omega) (show 0 ≤ -(a / b) by omega)
        rwa [Int.neg_mul_neg] at this
      omega
theorem wl_rem {x y : Operand} {xt yt : TypeId} {ki : IntKind} {a b : Int} (hop : o.op = .binOp .rem xt x y yt) (hx : ev F x = .int ki a) (hy : ev F y = .int ki b) (hg : o.guard = none) {d : Nat} (hd : o.dst = some d) (hn : Nat.blt d n = true) (h0 : 0 ≤ a) (h1 : 0 < b)
    (k : ∀ r, r = a % b → 0 ≤ r → r < b → r ≤ a → wl P n ops rest Q (upd F d (.int ki r)) w) : wl P n ops (o :: rest) Q F w :=
  wl_val hg hd hn (rem_run hop hx hy h0 h1) (k _ rfl (rem_facts h0 h1).1 (rem_facts h0 h1).2.1 (rem_facts h0 h1).2.2)
theorem wq_rem {x y : Operand} {xt yt : TypeId} {ki : IntKind} {a b : Int} (hop : o.op = .binOp .rem xt x y yt) (hx : ev F x = .int ki a) (hy : ev F y = .int ki b) (hg : o.guard = none) {d : Nat} (hd : o.dst = some d) (hn : Nat.blt d n = true) (h0 : 0 ≤ a) (h1 : 0 < b)
    (k : ∀ r, r = a % b → 0 ≤ r → r < b → r ≤ a → wq P n ops C rest K (upd F d (.int ki r))) : wq P n ops C (o :: rest) K F :=
  wq_val hg hd hn (fun _ _ => rem_run hop hx hy h0 h1) (k _ rfl (rem_facts h0 h1).1 (rem_facts h0 h1).2.1 (rem_facts h0 h1).2.2)
theorem quo_run {x y : Operand} {xt yt : TypeId} {ki : IntKind} {a b : Int} (hop : o.op = .binOp .quo xt x y yt) (hx : ev F x = .int ki a) (hy : ev F y = .int ki b) (h0 : 0 ≤ a) (h1 : 0 < b) (hi : inK ki (a / b)) : (execOp (ev F) o).run P w = .ok (.value (.int ki (a / b))) w := by
  have hb : ¬ b = 0 := by omega
  simp [execOp, hop, hx, hy, eqGuard, binOp, Op.intArith, Op.intDiv, hb, Int.tdiv_eq_ediv_of_nonneg h0, inK_wrap hi]
theorem wl_quo {x y : Operand} {xt yt : TypeId} {ki : IntKind} {a b : Int} (hop : o.op = .binOp .quo xt x y yt) (hx : ev F x = .int ki a) (hy : ev F y = .int ki b) (hg : o.guard = none) {d : Nat} (hd : o.dst = some d) (hn : Nat.blt d n = true) (h0 : 0 ≤ a) (h1 : 0 < b) (hi : inK ki (a / b))
    (k : wl P n ops rest Q (upd F d (.int ki (a / b))) w) : wl P n ops (o :: rest) Q F w := wl_val hg hd hn (quo_run hop hx hy h0 h1 hi) k
theorem wq_quo {x y : Operand} {xt yt : TypeId} {ki : IntKind} {a b : Int} (hop : o.op = .binOp .quo xt x y yt) (hx : ev F x = .int ki a) (hy : ev F y = .int ki b) (hg : o.guard = none) {d : Nat} (hd : o.dst = some d) (hn : Nat.blt d n = true) (h0 : 0 ≤ a) (h1 : 0 < b) (hi : inK ki (a / b))
    (k : wq P n ops C rest K (upd F d (.int ki (a / b)))) : wq P n ops C (o :: rest) K F := wq_val hg hd hn (fun _ _ => quo_run hop hx hy h0 h1 hi) k
theorem wq_mul {x y : Operand} {xt yt : TypeId} {a b : Int} (hop : o.op = .binOp .mul xt x y yt) (hx : ev F x = .int .i64 a) (hy : ev F y = .int .i64 b) (hg : o.guard = none) {d : Nat} (hd : o.dst = some d) (hn : Nat.blt d n = true)
    (h1 : -9223372036854775808 ≤ a * b) (h2 : a * b ≤ 9223372036854775807) (k : wq P n ops C rest K (upd F d (.int .i64 (a * b)))) : wq P n ops C (o :: rest) K F :=
  wq_val hg hd hn (fun _ _ => by simp [execOp, hop, hx, hy, eqGuard, binOp, Op.intArith, wrap_in h1 h2]) k
/-- A product of two that aren't written out: its bounds are had of theirs. -/
theorem mul_bounds {a b m k : Int} (ha : 0 ≤ a ∧ a ≤ m) (hb : 0 ≤ b ∧ b ≤ k) : 0 ≤ a * b ∧ a * b ≤ m * k :=
  ⟨Int.mul_nonneg ha.1 hb.1, Int.mul_le_mul ha.2 hb.2 hb.1 (by omega)⟩

/-! ### a result that lies in memory -/
theorem fin_c (hT : TabOk P T) {fn : Func} {R : Ending → World → Prop} {p : Tmp} {ty t' : TypeId} {g : Nat} {cs : List Value} {fr : Nat × Nat} (hr : fn.results = #[.cell p ty]) (hb : w.heap[g]? = some (.cells cs.toArray t' fr)) (hv : F p = .pointer (some ⟨g, 0, none⟩)) (h1 : aggT T ty cs.length = true) (h : R (.returned (.agg cs.toArray)) w) : Fin P fn R F w := by
  unfold Fin retQ
  intro tmps ht
  refine ⟨.agg cs.toArray, ?_, h⟩
  have h2 := aggT_run (P := P) (w := w) hT h1
  have h3 := run_loadCells (P := P) cs 0 #[] (cellsAt_blk hb cs 0 0 (by simp))
  have h4 := ht p
  rw [hv] at h4
  have h5 : tmps[p]?.getD undef = .pointer (some ⟨g, 0, none⟩) := by simpa using h4
  unfold results
  simp [hr, h5, asAddr, loadVar, h2, loadCells, h3]

/-! ### a drawn region with a tail -/
structure wa (P : Program) (n : Nat) (o : Oper) (F : Fm) (w : World) (K : Fm → World → Prop) : Prop where
  go : ∃ v w2, (execOp (ev F) o).run P w = .ok (.value v) w2 ∧ dstOk n o.dst = true ∧ K (updO F o.dst v) w2
theorem wa_alloc (hT : TabOk P T) {K : Fm → World → Prop} {t : TypeId} {i : TI} {cs : List Value} (hop : o.op = .alloc t) (hi : T t = some i) (hv : i.zero.cells = cs.toArray) {d : Nat} (hd : o.dst = some d) (hn : Nat.blt d n = true)
    (k : ∀ g w1, New w w1 g cs t → K (upd F d (.pointer (some ⟨g, 0, none⟩))) w1) : wa P n o F w K := by
  obtain ⟨j, hj, hz, _, _⟩ := T_i hT hi
  have hnw := new_alloc w cs t
  refine ⟨_, _, ?_, by rw [hd]; exact hn, by rw [hd]; exact k _ _ hnw⟩
  simp [execOp, hop, Instr.alloc, zeroValue, typeInfo, hj, hz, newVar, newRow, newObj, Sem.run, hv]
theorem wa_bs (hT : TabOk P T) (e s : Nat) {K : Fm → World → Prop} {t : TypeId} {len : Nat} {parts : Array (Nat × Operand)} {i : TI} {z cs : List Value} (hop : o.op = .buildSlice t len parts) (h1 : sliceT T t e s = true) (hi : T e = some i) (hz : i.zero.cells = z.toArray) (hzl : Nat.beq z.length s = true) (hlen : Nat.ble (len * s) 16777216 = true)
    (hc : bld F (fun i => some (i * s, s)) parts.toList (List.replicate len z).flatten = some cs) {d : Nat} (hd : o.dst = some d) (hn : Nat.blt d n = true)
    (k : ∀ g w1, New w w1 g cs e → K (upd F d (.slice (some ⟨g, 0, none⟩) len len)) w1) : wa P n o F w K := by
  have hnw := new_alloc w cs e
  refine ⟨.slice (some ⟨w.heap.size, 0, none⟩) len len, _, ?_, by rw [hd]; exact hn, by rw [hd]; exact k _ _ hnw⟩
  exact bs_run hT e s hop h1 hi hz hzl hlen hc
theorem wa_ap (hT : TabOk P T) (e s b : Nat) {K : Fm → World → Prop} {base m len : Nat} {v : Value} {flat news : List Value} {c : Call} {x y : Operand} {t : TypeId} {g cc : Nat} {tn : TypeId} {fr : Nat × Nat}
    (hown : w.ownsRow base e s v len flat) (hb : w.heap[g]? = some (.cells news.toArray tn fr)) (hop : o.op = .call c) (hcal : c.callee = .builtin .append) (hargs : c.args.toList = [x, y]) (htys : c.argTypes.toList = [t, t])
    (hx : ev F x = v) (hy : ev F y = .slice (some ⟨g, 0, none⟩) m cc) (h1 : appT T t e s b = true) (hs0 : Nat.blt 0 s = true) {d : Nat} (hd : o.dst = some d) (hn : Nat.blt d n = true)
    (hl : news.length = m * s) (hone : ∀ u ∈ news, u.oneCell' = true) (hbig : (len + m) * b ≤ 140737488355328) (h63 : len + m ≤ 9223372036854775807) (hbase : base ≤ w.heap.size)
    (k : ∀ A cap w1, w1.ownsRow base e s (.slice A (len + m) cap) (len + m) (flat ++ news) → w.grownBy w1 v.ownBlock → ((Value.slice A (len + m) cap).ownBlock = v.ownBlock ∨ (Value.slice A (len + m) cap).ownBlock = some w.heap.size) →
      K (upd F d (.slice A (len + m) cap)) w1) : wa P n o F w K := by
  obtain ⟨A, cap, w1, hr, h2, h3, h5⟩ := ap_run hT e s b hown hb hop hcal hargs htys hx hy h1 hs0 hl hone hbig h63 hbase
  exact ⟨_, _, hr, by rw [hd]; exact hn, by rw [hd]; exact k A cap w1 h2 h3 h5⟩
/-- The chain, in the frames. -/
def chainF (P : Program) (n : Nat) (C : World → Prop) (T : Fm → World → Prop) : List Oper → Fm → World → Prop
  | [], F, W => T F W
  | o :: c, F, W => wa P n o F W fun F2 w2 => C w2 ∧ ∀ W', Below w2.heap.size w2 W' → C W' → chainF P n C T c F2 W'
theorem chainA_of {T : Fm → World → Prop} {T' : Act → World → Prop} (hT' : ∀ a F W, Fr a n F → T F W → T' a W) : ∀ (c : List Oper) (a : Act) (F : Fm) (W : World), Fr a n F → chainF P n C T c F W → chainA P C T' c a W
  | [], a, F, W, ha, h => hT' a F W ha h
  | o :: c, a, F, W, ha, h => by
    obtain ⟨v, w2, h1, h2, h3, h4⟩ := h.go
    exact ⟨v, w2, by rw [ha.eval]; exact h1, h3, fun W' hW' hC' => chainA_of hT' c _ _ W' (ha.put h2 v) (h4 W' hW' hC')⟩
theorem grown_refl (w : World) (row : Option Nat) : w.grownBy w row := ⟨rfl, rfl, rfl, Nat.le_refl _, fun _ _ _ => rfl⟩
theorem grown_of {w w' : World} {row : Option Nat} (h : Below w.heap.size w w') : w.grownBy w' row := ⟨h.os, h.tape, h.output, h.size, fun k hk _ => h.block k hk⟩
theorem grown_trans {w w1 w2 : World} {row : Option Nat} (h : w.grownBy w1 row) (h' : w1.grownBy w2 row) : w.grownBy w2 row := ⟨h'.os.trans h.os, h'.tape.trans h.tape, h'.output.trans h.output, Nat.le_trans h.size h'.size, fun k hk hne => (h'.block k (Nat.lt_of_lt_of_le hk h.size) hne).trans (h.block k hk hne)⟩
theorem own_ne {w : World} {base : Nat} {e : TypeId} {sz : Nat} {v : Value} {n : Nat} {xs : List Value} (h : w.ownsRow base e sz v n xs) {g : Nat} (hg : g < base) : some g ≠ v.ownBlock := fun e => by have := (h.lt g e.symm).1; omega
theorem wc_qt {id : Nat} {l : List Oper} (m e : Nat) (hC : Stable C) (hT : TabOk P T) (hm : P.follows .mixedOrders = true) (hB : tailB .any l.toArray m e = true) (hgd : ((l.drop m).take (e - m)).all (fun o => o.guard.isNone) = true) (hCw : C w)
    (h : runQ P T n l.toArray C (l.take m) (fun F' => ∀ w1, C w1 → Below w.heap.size w w1 → chainF P n C (fun F2 W => runG P T n l.toArray (l.drop e) Q F2 W) ((l.drop m).take (e - m)) F' w1) F) : wc P n (.region id l.toArray true) Q F w := by
  unfold wc
  intro a ha
  refine wp_region_tail m e hC hm hB hgd hCw (wpQB_mono ?_ ((run_q hT h).go a ha))
  rintro a' ⟨F', h2, h3⟩ w1 hw1 hb1
  refine chainA_of (T := fun F2 W => runG P T n l.toArray (l.drop e) Q F2 W) (fun a F W ha h => ?_) _ _ _ _ h2 (h3 w1 hw1 hb1)
  have := run_l hT h
  unfold wl at this
  exact this _ ha
end
end Go.Proofs.YtkjbkalakafnlaaDoor
