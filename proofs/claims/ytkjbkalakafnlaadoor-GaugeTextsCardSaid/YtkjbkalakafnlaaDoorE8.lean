/- Functions that capture, the greater of two, functions without a result, elements written in place. -/
import Derived.Test.YtkjbkalakafnlaaDoorE7
namespace Go.Proofs.YtkjbkalakafnlaaDoor
open Go.RowKit
set_option linter.unusedVariables false
set_option linter.unusedSimpArgs false
section
variable {P : Program} {T : Nat → Option TI} {n : Nat} {Q : Post} {F : Fm} {w : World} {ops : Array Oper} {rest : List Oper} {o : Oper} {K : Fm → Prop} {C : World → Prop}
theorem wl_mf {fn : Fn} {first caps : Array Operand} {fs cs : List Value} (hop : o.op = .makeFunc fn first caps) (hf : first.toList.map (ev F) = fs) (hc : caps.toList.map (ev F) = cs) (hg : o.guard = none) {d : Nat} (hd : o.dst = some d) (hn : Nat.blt d n = true)
    (k : wl P n ops rest Q (upd F d (.func fn fs.toArray cs.toArray)) w) : wl P n ops (o :: rest) Q F w := by
  refine wl_val hg hd hn ?_ k
  have e1 : first.map (ev F) = fs.toArray := Array.toList_inj.1 (by rw [Array.toList_map, hf])
  have e2 : caps.map (ev F) = cs.toArray := Array.toList_inj.1 (by rw [Array.toList_map, hc])
  simp [execOp, hop, Instr.makeFunc, e1, e2]
/-- A function value that has captured variables is called. -/
theorem wl_CF {f : FuncId} {c : Call} {x : Operand} {first args caps : List Value} {R : Ending → World → Prop} (hf : FnOk P f) (hc : Calls P f (first ++ args ++ caps).toArray w R) (hop : o.op = .call c) (hcal : c.callee = .value x) (hx : ev F x = .func (.func f) first.toArray caps.toArray) (hargs : c.args.toList.map (ev F) = args) (hg : o.guard = none) {d : Nat} (hd : o.dst = some d) (hn : Nat.blt d n = true)
    (k : ∀ e w1, R e w1 → ∃ v, e = .returned v ∧ wl P n ops rest Q (upd F d v) w1) : wl P n ops (o :: rest) Q F w := by
  refine wl_ent hg hd hn ?_ hc k
  have : c.args.map (ev F) = args.toArray := Array.toList_inj.1 (by rw [Array.toList_map, hargs])
  have e : (first ++ args ++ caps).toArray = first.toArray ++ args.toArray ++ caps.toArray := by simp
  rw [e]
  simp [execOp, hop, resolve, hcal, hx, Deferred.ofValue, this, invoke, run_callFunc hf]
theorem max_run {c : Call} {x y : Operand} {ki : IntKind} {a b : Int} (hop : o.op = .call c) (hcal : c.callee = .builtin .max) (hargs : c.args.toList = [x, y]) (hx : ev F x = .int ki a) (hy : ev F y = .int ki b) : (execOp (ev F) o).run P w = .ok (.value (.int ki (if b > a then b else a))) w := by
  obtain ⟨callee, ⟨args⟩, tys⟩ := c
  simp only at hcal hargs
  subst hcal hargs
  simp [execOp, hop, resolve, invoke, builtin, Builtin.max_, Builtin.max2, hx, hy]
theorem wl_max {c : Call} {x y : Operand} {ki : IntKind} {a b : Int} (hop : o.op = .call c) (hcal : c.callee = .builtin .max) (hargs : c.args.toList = [x, y]) (hx : ev F x = .int ki a) (hy : ev F y = .int ki b) (hg : o.guard = none) {d : Nat} (hd : o.dst = some d) (hn : Nat.blt d n = true)
    (k : ∀ m, m = (if b > a then b else a) → wl P n ops rest Q (upd F d (.int ki m)) w) : wl P n ops (o :: rest) Q F w := wl_val hg hd hn (max_run hop hcal hargs hx hy) (k _ rfl)
theorem wl_addk {x y : Operand} {xt yt : TypeId} {ki : IntKind} {a b : Int} (hop : o.op = .binOp .add xt x y yt) (hx : ev F x = .int ki a) (hy : ev F y = .int ki b) (hg : o.guard = none) {d : Nat} (hd : o.dst = some d) (hn : Nat.blt d n = true) (hi : inK ki (a + b))
    (k : wl P n ops rest Q (upd F d (.int ki (a + b))) w) : wl P n ops (o :: rest) Q F w := by
  refine wl_addw hop hx hy hg hd hn ?_
  rw [inK_wrap hi]
  exact k
/-- An element of a block of one's own is written. -/
theorem wl_Se (hT : TabOk P T) {t t' : TypeId} {x y : Operand} {i : TI} {g j : Nat} {cs : List Value} {v : Value} (hb : w.heap[g]? = some (.cells cs.toArray t' (0, 0))) (hop : o.op = .store t x y) (hx : ev F x = .pointer (some ((⟨g, 0, none⟩ : Addr).add j))) (hy : ev F y = v)
    (hi : T t = some i) (h1 : i.size = 1) (hv : v.oneCell' = true) (hoff : j < cs.length) (hg : o.guard = none) (hd : o.dst = none)
    (k : ∀ w1, Put w w1 g (cs.set j v) t' → wl P n ops rest Q F w1) : wl P n ops (o :: rest) Q F w :=
  wl_S (off := j) hT hb hop (by rw [hx, add_zero]) hy hi h1 hv hoff hg hd k
theorem fin0 {fn : Func} {R : Ending → World → Prop} (hr : fn.results = #[]) (h : R (.returned (.tuple #[])) w) : Fin P fn R F w := by
  unfold Fin retQ
  intro tmps ht
  refine ⟨.tuple #[], ?_, h⟩
  unfold results
  simp [hr]
end
end Go.Proofs.YtkjbkalakafnlaaDoor
