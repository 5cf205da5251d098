/- Guards told apart, indexes, calls, make, literals, append, whole structs stored. -/
import Derived.Test.YtkjbkalakafnlaaDoorE1
namespace Go.Proofs.YtkjbkalakafnlaaDoor
open Go.RowKit
set_option linter.unusedVariables false
set_option linter.unusedSimpArgs false
section
variable {P : Program} {T : Nat → Option TI} {n : Nat} {Q : Post} {F : Fm} {w : World} {ops : Array Oper} {rest : List Oper} {o : Oper}

/-! ### guards -/
theorem wl_gt {j : Nat} {oj : Oper} {t : Tmp} {p : Prop} {ip : Decidable p} (hg : o.guard = some (j, true)) (hj : ops[j]? = some oj) (ht : oj.dst = some t) (hb : F t = .bool (decide p)) (hn : Nat.blt t n = true) {d : Nat} (hd : o.dst = some d) (hdn : Nat.blt d n = true)
    (k1 : p → wl P n ops (ung o :: rest) Q (upd F t (.bool true)) w) (k2 : ¬ p → wl P n ops rest Q (upd (upd F t (.bool false)) d undef) w) : wl P n ops (o :: rest) Q F w :=
  wl_g hg hj ht hb hn hd hdn (fun h => k1 (of_decide_eq_true h)) (fun h => k2 (of_decide_eq_false h))
theorem wl_gf {j : Nat} {oj : Oper} {t : Tmp} {p : Prop} {ip : Decidable p} (hg : o.guard = some (j, false)) (hj : ops[j]? = some oj) (ht : oj.dst = some t) (hb : F t = .bool (decide p)) (hn : Nat.blt t n = true) {d : Nat} (hd : o.dst = some d) (hdn : Nat.blt d n = true)
    (k1 : p → wl P n ops rest Q (upd (upd F t (.bool true)) d undef) w) (k2 : ¬ p → wl P n ops (ung o :: rest) Q (upd F t (.bool false)) w) : wl P n ops (o :: rest) Q F w :=
  wl_g hg hj ht hb hn hd hdn (fun h => k1 (of_decide_eq_true h)) (fun h => k2 (of_decide_eq_false h))
theorem wl_gtb {j : Nat} {oj : Oper} {t : Tmp} {c : Bool} (hg : o.guard = some (j, true)) (hj : ops[j]? = some oj) (ht : oj.dst = some t) (hb : F t = .bool c) (hn : Nat.blt t n = true) {d : Nat} (hd : o.dst = some d) (hdn : Nat.blt d n = true)
    (k1 : c = true → wl P n ops (ung o :: rest) Q (upd F t (.bool true)) w) (k2 : c = false → wl P n ops rest Q (upd (upd F t (.bool false)) d undef) w) : wl P n ops (o :: rest) Q F w :=
  wl_g hg hj ht hb hn hd hdn k1 k2
theorem wl_gfb {j : Nat} {oj : Oper} {t : Tmp} {c : Bool} (hg : o.guard = some (j, false)) (hj : ops[j]? = some oj) (ht : oj.dst = some t) (hb : F t = .bool c) (hn : Nat.blt t n = true) {d : Nat} (hd : o.dst = some d) (hdn : Nat.blt d n = true)
    (k1 : c = true → wl P n ops rest Q (upd (upd F t (.bool true)) d undef) w) (k2 : c = false → wl P n ops (ung o :: rest) Q (upd F t (.bool false)) w) : wl P n ops (o :: rest) Q F w :=
  wl_g hg hj ht hb hn hd hdn k1 k2
/-- A negated test. -/
theorem wl_gtn {j : Nat} {oj : Oper} {t : Tmp} {c : Bool} (hg : o.guard = some (j, true)) (hj : ops[j]? = some oj) (ht : oj.dst = some t) (hb : F t = .bool (!c)) (hn : Nat.blt t n = true) {d : Nat} (hd : o.dst = some d) (hdn : Nat.blt d n = true)
    (k1 : c = false → wl P n ops (ung o :: rest) Q (upd F t (.bool true)) w) (k2 : c = true → wl P n ops rest Q (upd (upd F t (.bool false)) d undef) w) : wl P n ops (o :: rest) Q F w :=
  wl_g hg hj ht hb hn hd hdn (fun h => k1 (by simpa using h)) (fun h => k2 (by simpa using h))
theorem wl_gfn {j : Nat} {oj : Oper} {t : Tmp} {c : Bool} (hg : o.guard = some (j, false)) (hj : ops[j]? = some oj) (ht : oj.dst = some t) (hb : F t = .bool (!c)) (hn : Nat.blt t n = true) {d : Nat} (hd : o.dst = some d) (hdn : Nat.blt d n = true)
    (k1 : c = false → wl P n ops rest Q (upd (upd F t (.bool true)) d undef) w) (k2 : c = true → wl P n ops (ung o :: rest) Q (upd F t (.bool false)) w) : wl P n ops (o :: rest) Q F w :=
  wl_g hg hj ht hb hn hd hdn (fun h => k1 (by simpa using h)) (fun h => k2 (by simpa using h))
theorem wc_ifnb {c : Operand} {x y : Code} {b : Bool} (hc : ev F c = .bool (!b)) (ht : b = false → wc P n x Q F w) (hf : b = true → wc P n y Q F w) : wc P n (.cond c x y) Q F w :=
  wc_if hc (fun h => ht (by simpa using h)) (fun h => hf (by simpa using h))

/-- Where a piece of code has come to, by what stands behind it: heads of their own, so that no step tries to look through them. -/
def PN (Q : Post) (F : Fm) (w : World) : Prop := Q.n F w
def PX (Q : Post) (i : Nat) (F : Fm) (w : World) : Prop := Q.x i F w
def RetW (Q : Post) (F : Fm) (w : World) : Prop := Q.r F w
theorem xl_nil (h : PN Q F w) : wl P n ops [] Q F w := wl_nil h
theorem xc_skip (h : PN Q F w) : wc P n .skip Q F w := wc_skip h
theorem xc_label {i : Nat} (h : PN Q F w) : wc P n (.label i) Q F w := wc_label h
theorem xc_exit {i : Nat} (h : PX Q i F w) : wc P n (.exit i) Q F w := wc_exit h
theorem wc_retW (h : RetW Q F w) : wc P n .ret Q F w := wc_ret h
theorem pn_seq {next : Fm → World → Prop} (h : next F w) : PN (Q.seq next) F w := h
theorem pn_blk {i : Nat} (h : PN Q F w) : PN (Q.blk i) F w := h
theorem px_seq {next : Fm → World → Prop} {i : Nat} (h : PX Q i F w) : PX (Q.seq next) i F w := h
theorem px_hit {i : Nat} (h : PN Q F w) : PX (Q.blk i) i F w := blk_hit h
theorem px_miss {i j : Nat} (e : Nat.beq i j = false) (h : PX Q i F w) : PX (Q.blk j) i F w := blk_miss e h
theorem ret_seq {next : Fm → World → Prop} (h : RetW Q F w) : RetW (Q.seq next) F w := h
theorem ret_blk {i : Nat} (h : RetW Q F w) : RetW (Q.blk i) F w := h
theorem ret_mk {fn : Func} {R : Ending → World → Prop} {t : Tmp} {v : Value} {a : Fm → World → Prop} {c : Nat → Fm → World → Prop} (hr : fn.results = #[.tmp t]) (hv : F t = v) (h : R (.returned v) w) : RetW ⟨a, retQ P fn R, c⟩ F w := ret1 hr hv h
theorem fin_mk {fn : Func} {R : Ending → World → Prop} {t : Tmp} {v : Value} {b : Fm → World → Prop} {c : Nat → Fm → World → Prop} (hr : fn.results = #[.tmp t]) (hv : F t = v) (h : R (.returned v) w) : PN ⟨retQ P fn R, b, c⟩ F w := ret1 hr hv h
theorem ret_raw {a b : Fm → World → Prop} {c : Nat → Fm → World → Prop} (h : b F w) : RetW ⟨a, b, c⟩ F w := h
theorem fin_raw {a b : Fm → World → Prop} {c : Nat → Fm → World → Prop} (h : a F w) : PN ⟨a, b, c⟩ F w := h

/-! ### an element's place -/
def sliceT (T : Nat → Option TI) (t e s : Nat) : Bool := match T t, T e with
  | some ⟨.slice e', _, _, _⟩, some i => Nat.beq e' e && Nat.beq i.size s
  | _, _ => false
theorem sliceT_ok (hT : TabOk P T) {t e s : Nat} (h : sliceT T t e s = true) : P.underlying t = some (.slice e) ∧ (sizeOf e).run P w = .ok s w := by
  unfold sliceT at h
  split at h
  · rename_i e1 e2
    simp only [Bool.and_eq_true] at h
    have h1 := Nat.eq_of_beq_eq_true h.1
    have h2 := Nat.eq_of_beq_eq_true h.2
    subst h1 h2
    exact ⟨T_u hT e1, run_size hT e2⟩
  · cases h
/-- e: the element's type, s: how many cells it has. -/
theorem wl_X (hT : TabOk P T) (e s : Nat) {t : TypeId} {x ix : Operand} {a : Addr} {len cap : Nat} {ki : IntKind} {i : Int} (hop : o.op = .indexAddr t x ix) (hx : ev F x = .slice (some a) len cap) (hi : ev F ix = .int ki i) (h1 : sliceT T t e s = true) (hg : o.guard = none) {d : Nat} (hd : o.dst = some d) (hn : Nat.blt d n = true)
    (h0 : 0 ≤ i) (hl : i < len) (k : wl P n ops rest Q (upd F d (.pointer (some (a.add (i.toNat * s))))) w) : wl P n ops (o :: rest) Q F w := by
  refine wl_val hg hd hn ?_ k
  obtain ⟨hu, hs⟩ := sliceT_ok (w := w) hT h1
  simp [execOp, hop, hx, hi, Instr.indexAt, asIntOf, run_und hu, hs, h0, hl]
theorem wl_Xn (hT : TabOk P T) (e s : Nat) {t : TypeId} {x ix : Operand} {a : Addr} {len cap : Nat} {ki : IntKind} {i : Nat} (hop : o.op = .indexAddr t x ix) (hx : ev F x = .slice (some a) len cap) (hi : ev F ix = .int ki i) (h1 : sliceT T t e s = true) (hg : o.guard = none) {d : Nat} (hd : o.dst = some d) (hn : Nat.blt d n = true)
    (hl : i < len) (k : wl P n ops rest Q (upd F d (.pointer (some (a.add (i * s))))) w) : wl P n ops (o :: rest) Q F w :=
  wl_X hT e s hop hx hi h1 hg hd hn (by omega) (by omega) (by simpa using k)

/-! ### calls -/
structure FnOk (P : Program) (f : FuncId) : Prop where
  ok : ∃ fn, P.funcs[f]? = some fn ∧ (fn.name == "runtime.NumGoroutine") = false ∧ fn.body.isNone = false
theorem run_callFunc {f : FuncId} (h : FnOk P f) (args : Array Value) : (callFunc f args).run P w = .ok (.enter f args) w := by
  obtain ⟨fn, h1, h2, h3⟩ := h.ok
  have h2' : ¬ fn.name = "runtime.NumGoroutine" := by simpa using h2
  have h3' : ¬ fn.body = none := by intro e; rw [e] at h3; cases h3
  simp [callFunc, h1, h2', h3']
theorem wl_C {f : FuncId} {c : Call} {x : Operand} {args : List Value} {R : Ending → World → Prop} (hf : FnOk P f) (hc : Calls P f args.toArray w R) (hop : o.op = .call c) (hcal : c.callee = .value x) (hx : ev F x = .func (.func f) #[] #[]) (hargs : c.args.toList.map (ev F) = args) (hg : o.guard = none) {d : Nat} (hd : o.dst = some d) (hn : Nat.blt d n = true)
    (k : ∀ e w1, R e w1 → ∃ v, e = .returned v ∧ wl P n ops rest Q (upd F d v) w1) : wl P n ops (o :: rest) Q F w := by
  refine wl_ent hg hd hn ?_ hc k
  have : c.args.map (ev F) = args.toArray := Array.toList_inj.1 (by rw [Array.toList_map, hargs])
  simp [execOp, hop, resolve, hcal, hx, Deferred.ofValue, this, invoke, run_callFunc hf]

/-! ### a row written out -/
theorem zeros_eq (z : List Value) : ∀ len : Nat, (List.range (len * z.length)).map (fun i => z[i % z.length]!) = (List.replicate len z).flatten
  | 0 => by simp
  | len + 1 => by
    rw [Nat.succ_mul, Nat.add_comm, List.range_add, List.map_append, List.map_map, List.replicate_succ, List.flatten_cons, ← zeros_eq z len]
    congr 1
    · apply List.ext_getElem
      · simp
      · intro i h1 h2
        simp only [List.length_map, List.length_range] at h1
        simp [Nat.mod_eq_of_lt h1, h1]
    · apply List.map_congr_left
      intro i _
      simp
theorem bs_run (hT : TabOk P T) (e s : Nat) {t : TypeId} {len : Nat} {parts : Array (Nat × Operand)} {i : TI} {z cs : List Value} (hop : o.op = .buildSlice t len parts) (h1 : sliceT T t e s = true) (hi : T e = some i) (hz : i.zero.cells = z.toArray) (hzl : Nat.beq z.length s = true) (hlen : Nat.ble (len * s) 16777216 = true)
    (hc : bld F (fun i => some (i * s, s)) parts.toList (List.replicate len z).flatten = some cs) : (execOp (ev F) o).run P w = .ok (.value (.slice (some ⟨w.heap.size, 0, none⟩) len len)) (w.alloc (.cells cs.toArray e)) := by
  obtain ⟨hu, hs⟩ := sliceT_ok (w := w) hT h1
  obtain ⟨j, hj, hjz, _, _⟩ := T_i hT hi
  have hl := Nat.le_of_ble_eq_true hlen
  have hzl' := Nat.eq_of_beq_eq_true hzl
  have hf := fill_ok hc
  have hparts : (parts.map fun (i, x) => (i, ev F x)).toList = parts.toList.map fun p => (p.1, ev F p.2) := by simp
  have hstart : ∀ zz : Array Value, zz = z.toArray → ((Array.range (len * s)).map (fun x => zz[x % zz.size]!)) = ((List.replicate len z).flatten).toArray := by
    rintro zz rfl
    rw [← zeros_eq z len, hzl']
    apply Array.ext'
    simp [hzl']
  simp only [execOp, hop, Instr.buildSlice, Sem.run_bind, run_und hu, hs, Result.andThen_ok]
  rw [if_neg (by omega)]
  by_cases h0 : len * s = 0
  · have hst : ((Array.range (len * s)).map (fun x => (#[] : Array Value)[x % (#[] : Array Value).size]!)) = ((List.replicate len z).flatten).toArray := by
      rw [← zeros_eq z len, hzl', h0]; simp
    rw [if_pos h0]
    simp only [Sem.run_bind, Sem.run_pure, Result.andThen_ok]
    rw [hst, hparts, hf]
    simp [newRow, newObj, Sem.run]
  · rw [if_neg h0]
    have hzv : (zeroValue e).run P w = .ok i.zero w := by simp [zeroValue, typeInfo, hj, hjz]
    simp only [Sem.run_bind, hzv, Result.andThen_ok, Sem.run_pure]
    rw [hstart _ hz, hparts, hf]
    simp [newRow, newObj, Sem.run]

theorem wl_bs (hT : TabOk P T) (e s : Nat) {t : TypeId} {len : Nat} {parts : Array (Nat × Operand)} {i : TI} {z cs : List Value} (hop : o.op = .buildSlice t len parts) (h1 : sliceT T t e s = true) (hi : T e = some i) (hz : i.zero.cells = z.toArray) (hzl : Nat.beq z.length s = true) (hlen : Nat.ble (len * s) 16777216 = true)
    (hc : bld F (fun i => some (i * s, s)) parts.toList (List.replicate len z).flatten = some cs) (hg : o.guard = none) {d : Nat} (hd : o.dst = some d) (hn : Nat.blt d n = true)
    (k : ∀ g w1, New w w1 g cs e → wl P n ops rest Q (upd F d (.slice (some ⟨g, 0, none⟩) len len)) w1) : wl P n ops (o :: rest) Q F w :=
  wl_val hg hd hn (bs_run hT e s hop h1 hi hz hzl hlen hc) (k _ _ (new_alloc w cs e))

/-! ### a struct stored whole -/
theorem put_all {t : TypeId} : ∀ (vs cs : List Value) (g i : Nat) (w : World), w.heap[g]? = some (.cells cs.toArray t (0, 0)) → i + vs.length ≤ cs.length → (∀ v ∈ vs, v.oneCell' = true) →
    ∃ w1, (storeCells ⟨g, 0, none⟩ vs i).run P w = .ok () w1 ∧ Put w w1 g (setAll cs i vs) t
  | [], cs, g, i, w, hb, _, _ => ⟨w, by simp [storeCells], rfl, by simpa [setAll] using hb, ⟨rfl, rfl, rfl, Nat.le_refl _, fun _ _ _ => rfl⟩⟩
  | v :: vs, cs, g, i, w, hb, hl, h1 => by
    simp only [List.length_cons] at hl
    have hp := put_setCell (off := i) hb v
    obtain ⟨w1, hr, hp1⟩ := put_all vs (cs.set i v) g (i + 1) _ hp.blk (by simp; omega) (fun u hu => h1 u (by simp [hu]))
    have hc : w.cell? ⟨g, i, none⟩ = some cs[i] := cell_blk hb (by simp [show i < cs.length by omega])
    have hf : w.frozen? ⟨g, i, none⟩ = false := by simp [World.frozen?, hb]
    have ha : (⟨g, 0, none⟩ : Addr).add i = ⟨g, i, none⟩ := add_zero g i
    refine ⟨w1, ?_, hp1.size.trans hp.size, by simpa [setAll] using hp1.blk, ⟨hp1.grown.os.trans hp.grown.os, hp1.grown.tape.trans hp.grown.tape, hp1.grown.output.trans hp.grown.output, Nat.le_trans hp.grown.size hp1.grown.size, fun k hk hne => (hp1.grown.block k (Nat.lt_of_lt_of_le hk hp.grown.size) hne).trans (hp.grown.block k hk hne)⟩⟩
    simp only [storeCells, Sem.run_bind, ha]
    rw [run_store P w _ v .plain (h1 v (by simp)), hc]
    simp only [hf, Bool.false_eq_true, if_false, Result.andThen_ok]
    exact hr
def sizeT (T : Nat → Option TI) (t m : Nat) : Bool := match T t with | some i => Nat.beq i.size m | none => false
theorem sizeT_run (hT : TabOk P T) {t m : Nat} (h : sizeT T t m = true) : (sizeOf t).run P w = .ok m w := by
  unfold sizeT at h
  split at h
  · rename_i i hi
    rw [run_size hT hi, Nat.eq_of_beq_eq_true h]
  · cases h
/-- A struct into a block of one's own that is just as great. -/
theorem wl_Sa (hT : TabOk P T) {t t' : TypeId} {x y : Operand} {g : Nat} {cs vs : List Value} (hb : w.heap[g]? = some (.cells cs.toArray t' (0, 0))) (hop : o.op = .store t x y) (hx : ev F x = .pointer (some ⟨g, 0, none⟩)) (hy : ev F y = .agg vs.toArray)
    (hs : sizeT T t vs.length = true) (hl : vs.length = cs.length) (hv : ∀ v ∈ vs, v.oneCell' = true) (hg : o.guard = none) (hd : o.dst = none)
    (k : ∀ w1, Put w w1 g vs t' → wl P n ops rest Q F w1) : wl P n ops (o :: rest) Q F w := by
  obtain ⟨w1, hr, hp⟩ := put_all (P := P) vs cs g 0 w hb (by omega) hv
  have key : ∀ (vs cs pre : List Value), vs.length = cs.length → setAll (pre ++ cs) pre.length vs = pre ++ vs := by
    intro vs
    induction vs with
    | nil => intro cs pre h; have : cs = [] := List.eq_nil_of_length_eq_zero h.symm; simp [setAll, this]
    | cons v vs ih =>
      intro cs pre h
      cases cs with
      | nil => simp at h
      | cons c cs =>
        simp only [setAll]
        have e1 : (pre ++ c :: cs).set pre.length v = (pre ++ [v]) ++ cs := by simp
        rw [e1]
        have := ih cs (pre ++ [v]) (by simpa using h)
        simp only [List.length_append, List.length_singleton] at this
        rw [this]; simp
  have e := key vs cs [] hl
  simp only [List.nil_append, List.length_nil] at e
  rw [e] at hp
  refine wl_skp hg hd ?_ (k w1 hp)
  simp [execOp, hop, hx, hy, Instr.storeAt, Instr.sureAddr, storeVar, Value.cells, sizeT_run hT hs, hr]
end
attribute [irreducible] RetW PN PX
end Go.Proofs.YtkjbkalakafnlaaDoor
