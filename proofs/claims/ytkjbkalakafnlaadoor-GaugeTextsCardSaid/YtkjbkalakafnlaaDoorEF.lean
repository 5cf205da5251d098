/- Floats: what they give, where the language names it; else that it is no number. -/
import Derived.Test.YtkjbkalakafnlaaDoorEY
import Derived.Laws.FloatArith
namespace Go.Proofs.YtkjbkalakafnlaaDoor
open Go.RowKit
set_option linter.unusedVariables false
set_option linter.unusedSimpArgs false
abbrev F64 : Ieee.Format := FloatKind.f64.format
def nanF (b : Nat) : Prop := ∃ s t, F64.read b = .nan s t
/-- Some: just these bits; none: no number, whichever. -/
def FRel : Option Nat → Nat → Prop
  | some r, b => b = r
  | none, b => nanF b
def fop (op : BinOp) : Option Nat → Option Nat → Option Nat
  | some a, some b => floatBits op .f64 a b
  | _, _ => none
theorem nan_left {op : BinOp} {a b : Nat} (h : nanF a) : floatBits op .f64 a b = none := by
  obtain ⟨s, t, h⟩ := h
  have h' : FloatKind.f64.format.read a = .nan s t := h
  cases op <;> simp [floatBits, Ieee.Format.add, Ieee.Format.sub, Ieee.Format.mul, Ieee.Format.div, h', Ieee.Datum.sum, Ieee.Datum.product, Ieee.Datum.quotient]
theorem nan_right {op : BinOp} {a b : Nat} (h : nanF b) : floatBits op .f64 a b = none := by
  obtain ⟨s, t, h⟩ := h
  have h' : FloatKind.f64.format.read b = .nan s t := h
  cases op <;> simp [floatBits, Ieee.Format.add, Ieee.Format.sub, Ieee.Format.mul, Ieee.Format.div, h', Ieee.Datum.sum, Ieee.Datum.product, Ieee.Datum.quotient, Ieee.Datum.opposite]
  all_goals (cases FloatKind.f64.format.read a <;> rfl)
theorem frel_op {op : BinOp} {x y : Option Nat} {a b r : Nat} (ha : FRel x a) (hb : FRel y b) (h : FRel (floatBits op .f64 a b) r) : FRel (fop op x y) r := by
  cases x with
  | none => rw [nan_left ha] at h; exact h
  | some a' =>
    cases y with
    | none => rw [nan_right hb] at h; exact h
    | some b' =>
      cases ha
      cases hb
      exact h
theorem order_nan {a b : Nat} (h : nanF a) : F64.order a b = none := by
  obtain ⟨s, t, h⟩ := h
  simp [Ieee.Format.order, h, Ieee.Datum.order]
theorem nan_cut (x y t : Nat) : nanF (Question.cut (.nanBits .f64 x y) t) := by
  have e1 : F64.signWeight = 9223372036854775808 := rfl
  have e2 : F64.binade = 4503599627370496 := rfl
  have e3 : F64.infRung = 9218868437227405312 := rfl
  unfold nanF Ieee.Format.read Question.cut
  simp only [e1, e2, e3]
  have hu : (t / 2) % (2 ^ 52 - 1) < 4503599627370495 := Nat.mod_lt _ (by decide)
  have hs : t % 2 = 0 ∨ t % 2 = 1 := by omega
  have e4 : (t % 2 * 2 ^ 63 + 0x7ff0000000000000 + 1 + (t / 2) % (2 ^ 52 - 1)) % 9223372036854775808 = 9218868437227405313 + (t / 2) % (2 ^ 52 - 1) := by
    rcases hs with h | h <;> rw [h] <;> omega
  rw [e4, if_neg (by omega), if_neg (by omega), if_neg (by omega)]
  exact ⟨_, _, rfl⟩
section
variable {P : Program} {T : Nat → Option TI} {n : Nat} {Q : Post} {F : Fm} {w : World} {ops : Array Oper} {rest : List Oper} {o : Oper} {K : Fm → Prop} {C : World → Prop}
def fArith (op : BinOp) : Bool := match op with | .add | .sub | .mul | .quo => true | _ => false
theorem fop_run {op : BinOp} {x y : Operand} {xt yt : TypeId} {a b : Nat} (hf : fArith op = true) (hop : o.op = .binOp op xt x y yt) (hx : ev F x = .float .f64 a) (hy : ev F y = .float .f64 b) :
    ∃ r w', (execOp (ev F) o).run P w = .ok (.value (.float .f64 r)) w' ∧ FRel (floatBits op .f64 a b) r ∧ Below w.heap.size w w' := by
  cases hb : floatBits op .f64 a b with
  | some r =>
    refine ⟨r, w, ?_, rfl, Below.refl _ _⟩
    have := run_float_arith (P := P) w op xt .f64 a b r hb
    cases op <;> simp only [fArith] at hf <;> first | (cases hf; done) | (simp [execOp, hop, hx, hy, eqGuard, this])
  | none =>
    refine ⟨Question.cut (.nanBits .f64 a b) (w.tape w.drawn (.nanBits .f64 a b)), { w with drawn := w.drawn + 1 }, ?_, nan_cut _ _ _, ⟨rfl, rfl, rfl, Nat.le_refl _, fun _ _ => rfl⟩⟩
    cases op <;> simp only [fArith] at hf <;> first | (cases hf; done) | (simp only [floatBits] at hb; simp [execOp, hop, hx, hy, eqGuard, binOp, Op.floatArith, hb, Sem.run, Question.forced, choose])
theorem wl_fop {op : BinOp} {x y : Operand} {xt yt : TypeId} {a b : Nat} (hf : fArith op = true) (hop : o.op = .binOp op xt x y yt) (hx : ev F x = .float .f64 a) (hy : ev F y = .float .f64 b) (hg : o.guard = none) {d : Nat} (hd : o.dst = some d) (hn : Nat.blt d n = true)
    (k : ∀ r w', FRel (floatBits op .f64 a b) r → Below w.heap.size w w' → wl P n ops rest Q (upd F d (.float .f64 r)) w') : wl P n ops (o :: rest) Q F w := by
  obtain ⟨r, w', h1, h2, h3⟩ := fop_run (P := P) (w := w) hf hop hx hy
  exact wl_val hg hd hn h1 (k r w' h2 h3)
def convF (T : Nat → Option TI) (s t : Nat) : Bool := match T s, T t with
  | some _, some ⟨.float .f64, _, _, _⟩ => true
  | _, _ => false
theorem fcv_run (hT : TabOk P T) {s t : TypeId} {x : Operand} {ki : IntKind} {a : Int} (hop : o.op = .convert s t x) (hx : ev F x = .int ki a) (h1 : convF T s t = true) : (execOp (ev F) o).run P w = .ok (.value (.float .f64 (FloatKind.f64.nearest a))) w := by
  unfold convF at h1
  split at h1
  · rename_i i1 sz by_ z e1 e2
    have h1 := T_u hT e1
    have h2 := T_u hT e2
    simp [execOp, hop, convert, run_und h1, run_und h2, hx, Conv.intToFloat]
  · cases h1
theorem wl_fcv (hT : TabOk P T) {s t : TypeId} {x : Operand} {ki : IntKind} {a : Int} (hop : o.op = .convert s t x) (hx : ev F x = .int ki a) (h1 : convF T s t = true) (hg : o.guard = none) {d : Nat} (hd : o.dst = some d) (hn : Nat.blt d n = true)
    (k : wl P n ops rest Q (upd F d (.float .f64 (FloatKind.f64.nearest a))) w) : wl P n ops (o :: rest) Q F w := wl_val hg hd hn (fcv_run hT hop hx h1) k
/-- Are they not one? -/
def fne (a b : Nat) : Bool := F64.order a b != some .eq
theorem fne_nan {a : Nat} (h : nanF a) (b : Nat) : fne a b = true := by rw [fne, order_nan h]; rfl
theorem wl_fne {x y : Operand} {xt yt : TypeId} {a b : Nat} (hop : o.op = .binOp .neq xt x y yt) (hx : ev F x = .float .f64 a) (hy : ev F y = .float .f64 b) (hg : o.guard = none) {d : Nat} (hd : o.dst = some d) (hn : Nat.blt d n = true)
    (k : wl P n ops rest Q (upd F d (.bool (fne a b))) w) : wl P n ops (o :: rest) Q F w := by
  refine wl_val hg hd hn ?_ k
  simp [execOp, hop, hx, hy, eqGuard, binOp, Op.floatCmp, fne]
theorem eqnil_run (hT : TabOk P T) {t : TypeId} (e s : Nat) {A : Option Addr} {l c : Nat} (h1 : sliceT T t e s = true) : (Op.equal t (.slice A l c) (.slice none 0 0)).run P w = .ok A.isNone w := by
  obtain ⟨hu, _⟩ := sliceT_ok (w := w) hT h1
  unfold Op.equal Op.maxDepth
  rw [show (10000 : Nat) = 9999 + 1 from rfl]
  unfold Op.equalIn
  cases A <;> simp [run_und hu]
/-- Is a slice nil? -/
theorem wl_eqnil (hT : TabOk P T) (e s : Nat) {t : TypeId} {x : Operand} {yt : TypeId} {A : Option Addr} {l c : Nat} (hop : o.op = .binOp .eql t x (.const (.slice none 0 0)) yt) (hx : ev F x = .slice A l c) (h1 : sliceT T t e s = true) (hg : o.guard = none) {d : Nat} (hd : o.dst = some d) (hn : Nat.blt d n = true)
    (k : wl P n ops rest Q (upd F d (.bool A.isNone)) w) : wl P n ops (o :: rest) Q F w := by
  refine wl_val hg hd hn ?_ k
  have := eqnil_run (P := P) (w := w) hT e s (A := A) (l := l) (c := c) h1
  have hy : ev F (.const (.slice none 0 0)) = .slice none 0 0 := rfl
  simp [execOp, hop, hx, hy, eqGuard, binOp, this]
/-! ### functions that have no body -/
structure ExtOk (P : Program) (f : FuncId) (e : Array Value → Sem Value) : Prop where
  ok : ∃ fn, P.funcs[f]? = some fn ∧ (fn.name == "runtime.NumGoroutine") = false ∧ fn.body.isNone = true ∧ Extern.findNext fn = none ∧ Extern.find fn = some e
theorem run_callExt {f : FuncId} {e : Array Value → Sem Value} (h : ExtOk P f e) {args : Array Value} {v : Value} (he : e args = pure v) : (callFunc f args).run P w = .ok (.value v) w := by
  obtain ⟨fn, h1, h2, h3, h4, h5⟩ := h.ok
  have h2' : ¬ fn.name = "runtime.NumGoroutine" := by simpa using h2
  have h3' : fn.body = none := by simpa using h3
  simp [callFunc, h1, h2', h3', h4, h5, he]
theorem wl_CE {f : FuncId} {e : Array Value → Sem Value} {c : Call} {x : Operand} {args : List Value} {v : Value} (hf : ExtOk P f e) (he : e args.toArray = pure v) (hop : o.op = .call c) (hcal : c.callee = .value x) (hx : ev F x = .func (.func f) #[] #[]) (hargs : c.args.toList.map (ev F) = args) (hg : o.guard = none) {d : Nat} (hd : o.dst = some d) (hn : Nat.blt d n = true)
    (k : wl P n ops rest Q (upd F d v) w) : wl P n ops (o :: rest) Q F w := by
  refine wl_val hg hd hn ?_ k
  have : c.args.map (ev F) = args.toArray := Array.toList_inj.1 (by rw [Array.toList_map, hargs])
  simp [execOp, hop, resolve, hcal, hx, Deferred.ofValue, this, invoke, run_callExt hf he]
end
end Go.Proofs.YtkjbkalakafnlaaDoor
