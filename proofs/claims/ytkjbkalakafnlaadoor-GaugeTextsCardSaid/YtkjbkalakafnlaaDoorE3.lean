/- What is read, in the calculus' forms; rows that are made and grow. -/
import Derived.Test.YtkjbkalakafnlaaDoorTF
import Derived.Test.YtkjbkalakafnlaaDoorEQ
import Derived.Test.YtkjbkalakafnlaaDoorP12
namespace Go.Proofs.YtkjbkalakafnlaaDoor
open Go.RowKit
set_option linter.unusedVariables false
set_option linter.unusedSimpArgs false
theorem cellsAt_of {w : World} {a : Addr} : ∀ (cs : List Value) (i : Nat), (∀ j u, cs[j]? = some u → w.cell? (a.add (i + j)) = some u) → cellsAt w a i cs
  | [], _, _ => trivial
  | c :: cs, i, h => ⟨by simpa using h 0 c rfl, cellsAt_of cs (i + 1) fun j u hu => by have := h (j + 1) u (by simpa using hu); rwa [show i + (j + 1) = i + 1 + j by omega] at this⟩
theorem cellsAt_up {w w1 : World} (hb : Below w.heap.size w w1) {a : Addr} : ∀ {cs : List Value} {i : Nat}, cellsAt w a i cs → cellsAt w1 a i cs
  | [], _, _ => trivial
  | c :: cs, i, ⟨h, hs⟩ => ⟨cell_up hb h, cellsAt_up hb hs⟩
theorem row_at {α : Type} [Inhabited α] {sz : Nat} {d : Dec α} {w : World} {A : Option Addr} {xs : List α} (h : RowR sz d w A xs) (i : Nat) (hi : i < xs.length) :
    ∃ ad cs, A = some ad ∧ cs.length = sz ∧ cellsAt w (ad.add (i * sz)) 0 cs ∧ d w cs xs[i]! := by
  obtain ⟨ad, cs, e, l, hc, hd⟩ := h.2 i hi
  exact ⟨ad, cs, e, l, cellsAt_of cs 0 fun j u hu => by rw [add_add, Nat.zero_add]; exact hc j u hu, hd⟩
/-- An element behind a name. -/
theorem intsE {w : World} {A : Option Addr} {xs : List Int} (h : RI w A xs) (i : Nat) (hi : i < xs.length) :
    ∃ x ad, Kp (xs[i]! = x) ∧ A = some ad ∧ w.cell? (ad.add (i * 1)) = some (.int .i64 x) ∧ -9223372036854775808 ≤ x ∧ x ≤ 9223372036854775807 := by
  obtain ⟨ad, cs, e, l, hc, rfl, r⟩ := row_at h i hi
  exact ⟨_, ad, ⟨rfl⟩, e, hc.1, r⟩
theorem rowsE {w : World} {A : Option Addr} {xs : List (List Int)} (h : RRows w A xs) (i : Nat) (hi : i < xs.length) :
    ∃ x ad B c, Kp (xs[i]! = x) ∧ A = some ad ∧ w.cell? (ad.add (i * 1)) = some (.slice B x.length c) ∧ x.length ≤ c ∧ Kp (RI w B x) := by
  obtain ⟨ad, cs, e, l, hc, B, c, rfl, hl, r⟩ := row_at h i hi
  exact ⟨_, ad, B, c, ⟨rfl⟩, e, hc.1, hl, ⟨r⟩⟩
theorem cellsE {w : World} {A : Option Addr} {xs : List Cell} (h : RCells w A xs) (i : Nat) (hi : i < xs.length) :
    ∃ x ad B c, Kp (xs[i]! = x) ∧ A = some ad ∧ cellsAt w (ad.add (i * 3)) 0 [.bool x.fn, .int .i64 x.v, .slice B x.args.length c] ∧ x.args.length ≤ c ∧ Kp (RI w B x.args) ∧ -9223372036854775808 ≤ x.v ∧ x.v ≤ 9223372036854775807 := by
  obtain ⟨ad, cs, e, l, hc, B, c, rfl, hl, r, hr⟩ := row_at h i hi
  exact ⟨_, ad, B, c, ⟨rfl⟩, e, hc, hl, ⟨r⟩, hr⟩
theorem consE {w : World} {A : Option Addr} {xs : List Con} (h : RCons w A xs) (i : Nat) (hi : i < xs.length) :
    ∃ x ad B c, Kp (xs[i]! = x) ∧ A = some ad ∧ cellsAt w (ad.add (i * 4)) 0 [.int .u8 x.k, .int .i64 x.a, .int .i64 x.b, .slice B x.args.length c] ∧ x.args.length ≤ c ∧ Kp (RI w B x.args) ∧ 0 ≤ x.k ∧ x.k ≤ 255 ∧
      (-9223372036854775808 ≤ x.a ∧ x.a ≤ 9223372036854775807) ∧ -9223372036854775808 ≤ x.b ∧ x.b ≤ 9223372036854775807 := by
  obtain ⟨ad, cs, e, l, hc, B, c, rfl, hl, r, hk, ha, hb⟩ := row_at h i hi
  exact ⟨_, ad, B, c, ⟨rfl⟩, e, hc, hl, ⟨r⟩, hk.1, hk.2, ha, hb⟩
theorem actsE {w : World} {A : Option Addr} {xs : List AAct} (h : RActs w A xs) (i : Nat) (hi : i < xs.length) :
    ∃ x ad, Kp (xs[i]! = x) ∧ A = some ad ∧ cellsAt w (ad.add (i * 4)) 0 [.int .u8 x.k, .int .u8 x.a, .int .u8 x.b, .int .u8 x.c] ∧ (0 ≤ x.k ∧ x.k ≤ 255) ∧ (0 ≤ x.a ∧ x.a ≤ 255) ∧ (0 ≤ x.b ∧ x.b ≤ 255) ∧ 0 ≤ x.c ∧ x.c ≤ 255 := by
  obtain ⟨ad, cs, e, l, hc, rfl, hr⟩ := row_at h i hi
  exact ⟨_, ad, ⟨rfl⟩, e, hc, hr⟩
/-- A block stays. -/
theorem blk_up {w w1 : World} (hb : Below w.heap.size w w1) {g : Nat} {o : Obj} (h : w.heap[g]? = some o) : w1.heap[g]? = some o := by
  rw [hb.block g (Array.getElem?_eq_some_iff.1 h).1]; exact h
theorem blk_lt {w : World} {g : Nat} {o : Obj} (h : w.heap[g]? = some o) : g < w.heap.size := (Array.getElem?_eq_some_iff.1 h).1
theorem New.up {w0 w w1 : World} {g : Nat} {cs : List Value} {t : TypeId} (h : New w w1 g cs t) (hb : Below w0.heap.size w0 w) : Below w0.heap.size w0 w1 := bup hb h.below

section
variable {P : Program} {T : Nat → Option TI} {n : Nat} {Q : Post} {F : Fm} {w : World} {ops : Array Oper} {rest : List Oper} {o : Oper}
/-! ### regions that draw their order and read alone -/
abbrev Bw (w : World) : World → Prop := fun w' => Below w.heap.size w w'
theorem stable_Bw (w : World) : Stable (Bw w) := fun _ _ h h' => bup h h'
/-- A row may have been written, or more may have been made. -/
abbrev Gw (w : World) (row : Option Nat) : World → Prop := fun w' => w.grownBy w' row
theorem stable_Gw (w : World) (row : Option Nat) : Stable (Gw w row) := fun _ _ h h' => ⟨h'.os.trans h.os, h'.tape.trans h.tape, h'.output.trans h.output, Nat.le_trans h.size h'.size, fun k hk hne => (h'.block k (Nat.lt_of_lt_of_le hk h.size)).trans (h.block k hk hne)⟩
structure wq (P : Program) (n : Nat) (ops : Array Oper) (C : World → Prop) (rest : List Oper) (K : Fm → Prop) (F : Fm) : Prop where
  go : ∀ a, Fr a n F → wpQB P ops C (fun a' => ∃ F', Fr a' n F' ∧ K F') rest a
theorem wc_q {id : Nat} {l : List Oper} (hm : P.follows .mixedOrders = true) (hB : Region.lexB .any l.toArray = true) (h : wq P n l.toArray (Bw w) l (fun F' => ∀ w', Below w.heap.size w w' → PN Q F' w') F) : wc P n (.region id l.toArray true) Q F w := by
  unfold wc
  intro a ha
  refine wp_region_quiet (C := fun w' => Below w.heap.size w w') hm hB ⟨rfl, rfl, rfl, Nat.le_refl _, fun _ _ => rfl⟩ ?_
  refine wpQB_quiet (stable_Bw w) (wpQB_mono ?_ (by simpa using h.go a ha))
  rintro a' ⟨F', h2, h3⟩ w' hw'
  have := h3 w' hw'
  unfold PN at this
  exact ⟨F', h2, this⟩
variable {K : Fm → Prop} {C : World → Prop}
theorem wq_nil (h : K F) : wq P n ops C [] K F := ⟨fun a ha => ⟨F, ha, h⟩⟩
theorem wq_val {v : Value} {d : Nat} (hg : o.guard = none) (hd : o.dst = some d) (hn : Nat.blt d n = true) (hrun : ∀ w', C w' → (execOp (ev F) o).run P w' = .ok (.value v) w') (k : wq P n ops C rest K (upd F d v)) : wq P n ops C (o :: rest) K F :=
  ⟨fun a ha => by
    unfold wpQB
    rw [if_pos (by simp [Region.wanted, hg])]
    refine ⟨v, fun w' hw' => ?_, k.go _ ?_⟩
    · unfold Oper.quietAt
      rw [ha.eval, hrun w' hw']
      exact ⟨rfl, rfl⟩
    · have := ha.put (dst_some hd hn) v
      rw [hd] at this ⊢
      exact this⟩
theorem wq_P (hT : TabOk P T) {v : Value} (h : pureF T o.op F = some v) (hg : o.guard = none) {d : Nat} (hd : o.dst = some d) (hn : Nat.blt d n = true) (k : wq P n ops C rest K (upd F d v)) : wq P n ops C (o :: rest) K F :=
  wq_val hg hd hn (fun _ _ => pure_ok hT h) k
theorem wq_L (hT : TabOk P T) {t : TypeId} {x : Operand} {a : Addr} {v : Value} (hop : o.op = .load t x) (hx : ev F x = .pointer (some a)) (h1 : oneT T t = true) (hg : o.guard = none) {d : Nat} (hd : o.dst = some d) (hn : Nat.blt d n = true)
    (hc : w.cell? a = some v) (k : wq P n ops (Bw w) rest K (upd F d v)) : wq P n ops (Bw w) (o :: rest) K F :=
  wq_val hg hd hn (fun w' hw' => by simp [execOp, hop, hx, Instr.loadAt, Instr.sureAddr, run_load_one hT h1 (cell_up hw' hc)]) k
theorem wq_LC (hT : TabOk P T) {t : TypeId} {x : Operand} {a : Addr} {v : Value} (hc : ∀ w', C w' → w'.cell? a = some v) (hop : o.op = .load t x) (hx : ev F x = .pointer (some a)) (h1 : oneT T t = true) (hg : o.guard = none) {d : Nat} (hd : o.dst = some d) (hn : Nat.blt d n = true)
    (k : wq P n ops C rest K (upd F d v)) : wq P n ops C (o :: rest) K F :=
  wq_val hg hd hn (fun w' hw' => by simp [execOp, hop, hx, Instr.loadAt, Instr.sureAddr, run_load_one hT h1 (hc w' hw')]) k
theorem wq_LgC (hT : TabOk P T) {t t' : TypeId} {x : Operand} {g off : Nat} {cs : Array Value} {fr : Nat × Nat} {v : Value} (hb : ∀ w', C w' → w'.heap[g]? = some (.cells cs t' fr)) (hop : o.op = .load t x) (hx : ev F x = .pointer (some ⟨g, off, none⟩)) (h1 : oneT T t = true) (hg : o.guard = none) {d : Nat} (hd : o.dst = some d) (hn : Nat.blt d n = true)
    (hv : cs[off]? = some v) (k : wq P n ops C rest K (upd F d v)) : wq P n ops C (o :: rest) K F := wq_LC hT (fun w' hw' => cell_blk (hb w' hw') hv) hop hx h1 hg hd hn k
theorem wq_Lg (hT : TabOk P T) {t t' : TypeId} {x : Operand} {g off : Nat} {cs : Array Value} {fr : Nat × Nat} {v : Value} (hb : w.heap[g]? = some (.cells cs t' fr)) (hop : o.op = .load t x) (hx : ev F x = .pointer (some ⟨g, off, none⟩)) (h1 : oneT T t = true) (hg : o.guard = none) {d : Nat} (hd : o.dst = some d) (hn : Nat.blt d n = true)
    (hv : cs[off]? = some v) (k : wq P n ops (Bw w) rest K (upd F d v)) : wq P n ops (Bw w) (o :: rest) K F := wq_L hT hop hx h1 hg hd hn (cell_blk hb hv) k
theorem wq_Lb (hT : TabOk P T) {w0 : World} (hB : Below w0.heap.size w0 w) {t : TypeId} {x : Operand} {a : Addr} {v : Value} (hop : o.op = .load t x) (hx : ev F x = .pointer (some a)) (h1 : oneT T t = true) (hg : o.guard = none) {d : Nat} (hd : o.dst = some d) (hn : Nat.blt d n = true)
    (hc : w0.cell? a = some v) (k : wq P n ops (Bw w) rest K (upd F d v)) : wq P n ops (Bw w) (o :: rest) K F := wq_L hT hop hx h1 hg hd hn (cell_up hB hc) k
theorem wq_La (hT : TabOk P T) {t : TypeId} {x : Operand} {a : Addr} {vs : List Value} (hc : cellsAt w a 0 vs) (hop : o.op = .load t x) (hx : ev F x = .pointer (some a)) (h1 : aggT T t vs.length = true) (hg : o.guard = none) {d : Nat} (hd : o.dst = some d) (hn : Nat.blt d n = true)
    (k : wq P n ops (Bw w) rest K (upd F d (.agg vs.toArray))) : wq P n ops (Bw w) (o :: rest) K F :=
  wq_val hg hd hn (fun w' hw' => by
    have h2 := aggT_run (P := P) (w := w') hT h1
    have h3 := run_loadCells (P := P) vs 0 #[] (cellsAt_up hw' hc)
    simp [execOp, hop, hx, Instr.loadAt, Instr.sureAddr, loadVar, h2, loadCells, h3]) k
theorem wq_LaC (hT : TabOk P T) {t : TypeId} {x : Operand} {a : Addr} {vs : List Value} (hc : ∀ w', C w' → cellsAt w' a 0 vs) (hop : o.op = .load t x) (hx : ev F x = .pointer (some a)) (h1 : aggT T t vs.length = true) (hg : o.guard = none) {d : Nat} (hd : o.dst = some d) (hn : Nat.blt d n = true)
    (k : wq P n ops C rest K (upd F d (.agg vs.toArray))) : wq P n ops C (o :: rest) K F :=
  wq_val hg hd hn (fun w' hw' => by
    have h2 := aggT_run (P := P) (w := w') hT h1
    have h3 := run_loadCells (P := P) vs 0 #[] (hc w' hw')
    simp [execOp, hop, hx, Instr.loadAt, Instr.sureAddr, loadVar, h2, loadCells, h3]) k
theorem wq_X (hT : TabOk P T) (e s : Nat) {t : TypeId} {x ix : Operand} {a : Addr} {len cap : Nat} {ki : IntKind} {i : Int} (hop : o.op = .indexAddr t x ix) (hx : ev F x = .slice (some a) len cap) (hi : ev F ix = .int ki i) (h1 : sliceT T t e s = true) (hg : o.guard = none) {d : Nat} (hd : o.dst = some d) (hn : Nat.blt d n = true)
    (h0 : 0 ≤ i) (hl : i < len) (k : wq P n ops C rest K (upd F d (.pointer (some (a.add (i.toNat * s)))))) : wq P n ops C (o :: rest) K F :=
  wq_val hg hd hn (fun w' _ => by
    obtain ⟨hu, hs⟩ := sliceT_ok (w := w') hT h1
    simp [execOp, hop, hx, hi, Instr.indexAt, asIntOf, run_und hu, hs, h0, hl]) k
theorem wq_Xn (hT : TabOk P T) (e s : Nat) {t : TypeId} {x ix : Operand} {a : Addr} {len cap : Nat} {ki : IntKind} {i : Nat} (hop : o.op = .indexAddr t x ix) (hx : ev F x = .slice (some a) len cap) (hi : ev F ix = .int ki i) (h1 : sliceT T t e s = true) (hg : o.guard = none) {d : Nat} (hd : o.dst = some d) (hn : Nat.blt d n = true)
    (hl : i < len) (k : wq P n ops C rest K (upd F d (.pointer (some (a.add (i * s)))))) : wq P n ops C (o :: rest) K F :=
  wq_X hT e s hop hx hi h1 hg hd hn (by omega) (by omega) (by simpa using k)
/-- A callee that makes nothing that lasts, in whatever world. -/
theorem wq_C {f : FuncId} {c : Call} {x : Operand} {args : List Value} {v : Value} (hf : FnOk P f) (hc : ∀ w', C w' → Calls P f args.toArray w' (fun e w'' => e = .returned v ∧ Below w'.heap.size w' w'')) (hop : o.op = .call c) (hcal : c.callee = .value x) (hx : ev F x = .func (.func f) #[] #[]) (hargs : c.args.toList.map (ev F) = args) (hg : o.guard = none) {d : Nat} (hd : o.dst = some d) (hn : Nat.blt d n = true)
    (k : wq P n ops C rest K (upd F d v)) : wq P n ops C (o :: rest) K F :=
  ⟨fun a ha => by
    unfold wpQB
    rw [if_pos (by simp [Region.wanted, hg])]
    refine ⟨v, fun w' hw' => ?_, k.go _ ?_⟩
    · unfold Oper.quietAt
      have e : c.args.map (ev F) = args.toArray := Array.toList_inj.1 (by rw [Array.toList_map, hargs])
      have e2 : (execOp (ev F) o).run P w' = .ok (.enter f args.toArray) w' := by
        simp [execOp, hop, resolve, hcal, hx, Deferred.ofValue, e, invoke, run_callFunc hf]
      rw [ha.eval, e2]
      exact ⟨rfl, (hc w' hw').mono fun _ _ h => h⟩
    · have := ha.put (dst_some hd hn) v
      rw [hd] at this ⊢
      exact this⟩
theorem wq_gT {j : Nat} {b : Bool} {oj : Oper} {t : Tmp} (hg : o.guard = some (j, b)) (hj : ops[j]? = some oj) (ht : oj.dst = some t) (hb : F t = .bool b) (hn : Nat.blt t n = true) (k : wq P n ops C (ung o :: rest) K F) : wq P n ops C (o :: rest) K F := ⟨fun a ha => by
  have hlt : t < a.tmps.size := by rw [ha.size]; exact nblt hn
  have h1 := ha.get t
  rw [hb, Array.getD_eq_getD_getElem?, Array.getElem?_eq_getElem hlt] at h1
  have hw : Region.wanted o (yielded ops a.tmps) = true := by
    simp only [Region.wanted, hg, yielded, hj, Option.bind_some, ht, Array.getElem?_eq_getElem hlt]
    simp at h1
    simp [h1]
  have hk := k.go a ha
  unfold wpQB at hk ⊢
  rw [if_pos hw]
  rw [if_pos (by simp [Region.wanted, ung])] at hk
  exact hk⟩
theorem wq_gF {j : Nat} {b c : Bool} {oj : Oper} {t : Tmp} (hg : o.guard = some (j, b)) (hj : ops[j]? = some oj) (ht : oj.dst = some t) (hb : F t = .bool c) (hne : (c == b) = false) (hn : Nat.blt t n = true) {d : Nat} (hd : o.dst = some d) (hdn : Nat.blt d n = true) (k : wq P n ops C rest K (upd F d undef)) : wq P n ops C (o :: rest) K F := ⟨fun a ha => by
  have hlt : t < a.tmps.size := by rw [ha.size]; exact nblt hn
  have h1 := ha.get t
  rw [hb, Array.getD_eq_getD_getElem?, Array.getElem?_eq_getElem hlt] at h1
  have hw : Region.wanted o (yielded ops a.tmps) = false := by
    simp only [Region.wanted, hg, yielded, hj, Option.bind_some, ht, Array.getElem?_eq_getElem hlt]
    simp at h1
    simp [h1]
    simpa using hne
  have hk := k.go _ (by have := ha.put (dst_some hd hdn) undef; rw [hd] at this; exact this)
  rw [← hd] at hk
  unfold wpQB
  rw [hw]
  simpa using hk⟩
theorem wq_gU {j : Nat} {b : Bool} {oj : Oper} {t : Tmp} (hg : o.guard = some (j, b)) (hj : ops[j]? = some oj) (ht : oj.dst = some t) (hb : F t = undef) (hn : Nat.blt t n = true) {d : Nat} (hd : o.dst = some d) (hdn : Nat.blt d n = true) (k : wq P n ops C rest K (upd F d undef)) : wq P n ops C (o :: rest) K F := ⟨fun a ha => by
  have hlt : t < a.tmps.size := by rw [ha.size]; exact nblt hn
  have h1 := ha.get t
  rw [hb, Array.getD_eq_getD_getElem?, Array.getElem?_eq_getElem hlt] at h1
  have hw : Region.wanted o (yielded ops a.tmps) = false := by
    simp only [Region.wanted, hg, yielded, hj, Option.bind_some, ht, Array.getElem?_eq_getElem hlt]
    simp at h1
    simp [h1, undef]
  have hk := k.go _ (by have := ha.put (dst_some hd hdn) undef; rw [hd] at this; exact this)
  rw [← hd] at hk
  unfold wpQB
  rw [hw]
  simpa using hk⟩
theorem wq_gt {j : Nat} {oj : Oper} {t : Tmp} {p : Prop} {ip : Decidable p} (hg : o.guard = some (j, true)) (hj : ops[j]? = some oj) (ht : oj.dst = some t) (hb : F t = .bool (decide p)) (hn : Nat.blt t n = true) {d : Nat} (hd : o.dst = some d) (hdn : Nat.blt d n = true)
    (k1 : p → wq P n ops C (ung o :: rest) K (upd F t (.bool true))) (k2 : ¬ p → wq P n ops C rest K (upd (upd F t (.bool false)) d undef)) : wq P n ops C (o :: rest) K F := by
  by_cases hp : p
  · have h := k1 hp
    have e : F t = .bool true := by rw [hb, decide_eq_true hp]
    rw [upd_self F t _ e] at h
    exact wq_gT hg hj ht e hn h
  · have h := k2 hp
    have e : F t = .bool false := by rw [hb, decide_eq_false hp]
    rw [upd_self F t _ e] at h
    exact wq_gF hg hj ht e rfl hn hd hdn h
theorem wq_gf {j : Nat} {oj : Oper} {t : Tmp} {p : Prop} {ip : Decidable p} (hg : o.guard = some (j, false)) (hj : ops[j]? = some oj) (ht : oj.dst = some t) (hb : F t = .bool (decide p)) (hn : Nat.blt t n = true) {d : Nat} (hd : o.dst = some d) (hdn : Nat.blt d n = true)
    (k1 : p → wq P n ops C rest K (upd (upd F t (.bool true)) d undef)) (k2 : ¬ p → wq P n ops C (ung o :: rest) K (upd F t (.bool false))) : wq P n ops C (o :: rest) K F := by
  by_cases hp : p
  · have h := k1 hp
    have e : F t = .bool true := by rw [hb, decide_eq_true hp]
    rw [upd_self F t _ e] at h
    exact wq_gF hg hj ht e rfl hn hd hdn h
  · have h := k2 hp
    have e : F t = .bool false := by rw [hb, decide_eq_false hp]
    rw [upd_self F t _ e] at h
    exact wq_gT hg hj ht e hn h
theorem wq_add {x y : Operand} {xt yt : TypeId} {a b : Int} (hop : o.op = .binOp .add xt x y yt) (hx : ev F x = .int .i64 a) (hy : ev F y = .int .i64 b) (hg : o.guard = none) {d : Nat} (hd : o.dst = some d) (hn : Nat.blt d n = true)
    (h1 : -9223372036854775808 ≤ a + b) (h2 : a + b ≤ 9223372036854775807) (k : wq P n ops C rest K (upd F d (.int .i64 (a + b)))) : wq P n ops C (o :: rest) K F :=
  wq_val hg hd hn (fun _ _ => by simp [execOp, hop, hx, hy, eqGuard, binOp, Op.intArith, wrap_in h1 h2]) k
theorem wq_sub {x y : Operand} {xt yt : TypeId} {a b : Int} (hop : o.op = .binOp .sub xt x y yt) (hx : ev F x = .int .i64 a) (hy : ev F y = .int .i64 b) (hg : o.guard = none) {d : Nat} (hd : o.dst = some d) (hn : Nat.blt d n = true)
    (h1 : -9223372036854775808 ≤ a - b) (h2 : a - b ≤ 9223372036854775807) (k : wq P n ops C rest K (upd F d (.int .i64 (a - b)))) : wq P n ops C (o :: rest) K F :=
  wq_val hg hd hn (fun _ _ => by simp [execOp, hop, hx, hy, eqGuard, binOp, Op.intArith, wrap_in h1 h2]) k
end
theorem mixed : Tryd.prog.follows .mixedOrders = true := by kernel_rfl
end Go.Proofs.YtkjbkalakafnlaaDoor
