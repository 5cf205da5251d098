/- Several texts of one claim in one file: E2 TF EQ P12 E3. -/
import Derived.Test.YtjggjhgbobmkhaaC2
import Derived.StillTail
import Derived.Deep.Quiet
import Derived.Test.YtjggjhgbobmkhaaC1
/- Guards told apart, indexes, calls, make, literals, append, whole structs stored. -/
namespace Go.Proofs.Ytjggjhgbobmkhaa
open Go.RowKit
set_option linter.unusedVariables false
set_option linter.unusedSimpArgs false
section
variable {P : Program} {T : Nat → Option TI} {n : Nat} {Q : Post} {F : Fm} {w : World} {ops : Array Oper} {rest : List Oper} {o : Oper}

/-! ### guards -/
/-- Where a piece of code has come to, by what stands behind it: heads of their own, so that no step tries to look through them. -/
def PN (Q : Post) (F : Fm) (w : World) : Prop := Q.n F w
def PX (Q : Post) (i : Nat) (F : Fm) (w : World) : Prop := Q.x i F w
def RetW (Q : Post) (F : Fm) (w : World) : Prop := Q.r F w
/-! ### an element's place -/
def sliceT (T : Nat → Option TI) (t e s : Nat) : Bool := match T t, T e with
  | some ⟨.slice e', _, _, _⟩, some i => Nat.beq e' e && Nat.beq i.size s
  | _, _ => false
theorem sliceT_ok (hT : TabOk P T) {t e s : Nat} (h : sliceT T t e s = true) : P.underlying t = some (.slice e) ∧ (sizeOf e).run P w = .ok s w := by
  unfold sliceT at h
  split at h
  · rename_i e1 e2
    simp only [Bool.and_eq_true] at h
    have h1 := Nat.eq_of_beq_eq_true h.1
    have h2 := Nat.eq_of_beq_eq_true h.2
    subst h1 h2
    exact ⟨T_u hT e1, run_size hT e2⟩
  · cases h
/-- e: the element's type, s: how many cells it has. -/
theorem wl_X (hT : TabOk P T) (e s : Nat) {t : TypeId} {x ix : Operand} {a : Addr} {len cap : Nat} {ki : IntKind} {i : Int} (hop : o.op = .indexAddr t x ix) (hx : ev F x = .slice (some a) len cap) (hi : ev F ix = .int ki i) (h1 : sliceT T t e s = true) (hg : o.guard = none) {d : Nat} (hd : o.dst = some d) (hn : Nat.blt d n = true)
    (h0 : 0 ≤ i) (hl : i < len) (k : wl P n ops rest Q (upd F d (.pointer (some (a.add (i.toNat * s))))) w) : wl P n ops (o :: rest) Q F w := by
  refine wl_val hg hd hn ?_ k
  obtain ⟨hu, hs⟩ := sliceT_ok (w := w) hT h1
  simp [execOp, hop, hx, hi, Instr.indexAt, asIntOf, run_und hu, hs, h0, hl]
theorem wl_Xn (hT : TabOk P T) (e s : Nat) {t : TypeId} {x ix : Operand} {a : Addr} {len cap : Nat} {ki : IntKind} {i : Nat} (hop : o.op = .indexAddr t x ix) (hx : ev F x = .slice (some a) len cap) (hi : ev F ix = .int ki i) (h1 : sliceT T t e s = true) (hg : o.guard = none) {d : Nat} (hd : o.dst = some d) (hn : Nat.blt d n = true)
    (hl : i < len) (k : wl P n ops rest Q (upd F d (.pointer (some (a.add (i * s))))) w) : wl P n ops (o :: rest) Q F w :=
  wl_X hT e s hop hx hi h1 hg hd hn (by omega) (by omega) (by simpa using k)

/-! ### calls -/
structure FnOk (P : Program) (f : FuncId) : Prop where
  ok : ∃ fn, P.funcs[f]? = some fn ∧ (fn.name == "runtime.NumGoroutine") = false ∧ fn.body.isNone = false
theorem run_callFunc {f : FuncId} (h : FnOk P f) (args : Array Value) : (callFunc f args).run P w = .ok (.enter f args) w := by
  obtain ⟨fn, h1, h2, h3⟩ := h.ok
  have h2' : ¬ fn.name = "runtime.NumGoroutine" := by simpa using h2
  have h3' : ¬ fn.body = none := by intro e; rw [e] at h3; cases h3
  simp [callFunc, h1, h2', h3']
theorem wl_C {f : FuncId} {c : Call} {x : Operand} {args : List Value} {R : Ending → World → Prop} (hf : FnOk P f) (hc : Calls P f args.toArray w R) (hop : o.op = .call c) (hcal : c.callee = .value x) (hx : ev F x = .func (.func f) #[] #[]) (hargs : c.args.toList.map (ev F) = args) (hg : o.guard = none) {d : Nat} (hd : o.dst = some d) (hn : Nat.blt d n = true)
    (k : ∀ e w1, R e w1 → ∃ v, e = .returned v ∧ wl P n ops rest Q (upd F d v) w1) : wl P n ops (o :: rest) Q F w := by
  refine wl_ent hg hd hn ?_ hc k
  have : c.args.map (ev F) = args.toArray := Array.toList_inj.1 (by rw [Array.toList_map, hargs])
  simp [execOp, hop, resolve, hcal, hx, Deferred.ofValue, this, invoke, run_callFunc hf]

/-! ### a row written out -/
theorem zeros_eq (z : List Value) : ∀ len : Nat, (List.range (len * z.length)).map (fun i => z[i % z.length]!) = (List.replicate len z).flatten
  | 0 => by simp
  | len + 1 => by
    rw [Nat.succ_mul, Nat.add_comm, List.range_add, List.map_append, List.map_map, List.replicate_succ, List.flatten_cons, ← zeros_eq z len]
    congr 1
    · apply List.ext_getElem
      · simp
      · intro i h1 h2
        simp only [List.length_map, List.length_range] at h1
        simp [Nat.mod_eq_of_lt h1, h1]
    · apply List.map_congr_left
      intro i _
      simp
theorem bs_run (hT : TabOk P T) (e s : Nat) {t : TypeId} {len : Nat} {parts : Array (Nat × Operand)} {i : TI} {z cs : List Value} (hop : o.op = .buildSlice t len parts) (h1 : sliceT T t e s = true) (hi : T e = some i) (hz : i.zero.cells = z.toArray) (hzl : Nat.beq z.length s = true) (hlen : Nat.ble (len * s) 16777216 = true)
    (hc : bld F (fun i => some (i * s, s)) parts.toList (List.replicate len z).flatten = some cs) : (execOp (ev F) o).run P w = .ok (.value (.slice (some ⟨w.heap.size, 0, none⟩) len len)) (w.alloc (.cells cs.toArray e)) := by
  obtain ⟨hu, hs⟩ := sliceT_ok (w := w) hT h1
  obtain ⟨j, hj, hjz, _, _⟩ := T_i hT hi
  have hl := Nat.le_of_ble_eq_true hlen
  have hzl' := Nat.eq_of_beq_eq_true hzl
  have hf := fill_ok hc
  have hparts : (parts.map fun (i, x) => (i, ev F x)).toList = parts.toList.map fun p => (p.1, ev F p.2) := by simp
  have hstart : ∀ zz : Array Value, zz = z.toArray → ((Array.range (len * s)).map (fun x => zz[x % zz.size]!)) = ((List.replicate len z).flatten).toArray := by
    rintro zz rfl
    rw [← zeros_eq z len, hzl']
    apply Array.ext'
    simp [hzl']
  simp only [execOp, hop, Instr.buildSlice, Sem.run_bind, run_und hu, hs, Result.andThen_ok]
  rw [if_neg (by omega)]
  by_cases h0 : len * s = 0
  · have hst : ((Array.range (len * s)).map (fun x => (#[] : Array Value)[x % (#[] : Array Value).size]!)) = ((List.replicate len z).flatten).toArray := by
      rw [← zeros_eq z len, hzl', h0]; simp
    rw [if_pos h0]
    simp only [Sem.run_bind, Sem.run_pure, Result.andThen_ok]
    rw [hst, hparts, hf]
    simp [newRow, newObj, Sem.run]
  · rw [if_neg h0]
    have hzv : (zeroValue e).run P w = .ok i.zero w := by simp [zeroValue, typeInfo, hj, hjz]
    simp only [Sem.run_bind, hzv, Result.andThen_ok, Sem.run_pure]
    rw [hstart _ hz, hparts, hf]
    simp [newRow, newObj, Sem.run]

theorem wl_bs (hT : TabOk P T) (e s : Nat) {t : TypeId} {len : Nat} {parts : Array (Nat × Operand)} {i : TI} {z cs : List Value} (hop : o.op = .buildSlice t len parts) (h1 : sliceT T t e s = true) (hi : T e = some i) (hz : i.zero.cells = z.toArray) (hzl : Nat.beq z.length s = true) (hlen : Nat.ble (len * s) 16777216 = true)
    (hc : bld F (fun i => some (i * s, s)) parts.toList (List.replicate len z).flatten = some cs) (hg : o.guard = none) {d : Nat} (hd : o.dst = some d) (hn : Nat.blt d n = true)
    (k : ∀ g w1, New w w1 g cs e → wl P n ops rest Q (upd F d (.slice (some ⟨g, 0, none⟩) len len)) w1) : wl P n ops (o :: rest) Q F w :=
  wl_val hg hd hn (bs_run hT e s hop h1 hi hz hzl hlen hc) (k _ _ (new_alloc w cs e))

/-! ### a struct stored whole -/
theorem put_all {t : TypeId} : ∀ (vs cs : List Value) (g i : Nat) (w : World), w.heap[g]? = some (.cells cs.toArray t (0, 0)) → i + vs.length ≤ cs.length → (∀ v ∈ vs, v.oneCell' = true) →
    ∃ w1, (storeCells ⟨g, 0, none⟩ vs i).run P w = .ok () w1 ∧ Put w w1 g (setAll cs i vs) t
  | [], cs, g, i, w, hb, _, _ => ⟨w, by simp [storeCells], rfl, by simpa [setAll] using hb, ⟨rfl, rfl, rfl, Nat.le_refl _, fun _ _ _ => rfl⟩⟩
  | v :: vs, cs, g, i, w, hb, hl, h1 => by
    simp only [List.length_cons] at hl
    have hp := put_setCell (off := i) hb v
    obtain ⟨w1, hr, hp1⟩ := put_all vs (cs.set i v) g (i + 1) _ hp.blk (by simp; omega) (fun u hu => h1 u (by simp [hu]))
    have hc : w.cell? ⟨g, i, none⟩ = some cs[i] := cell_blk hb (by simp [show i < cs.length by omega])
    have hf : w.frozen? ⟨g, i, none⟩ = false := by simp [World.frozen?, hb]
    have ha : (⟨g, 0, none⟩ : Addr).add i = ⟨g, i, none⟩ := add_zero g i
    refine ⟨w1, ?_, hp1.size.trans hp.size, by simpa [setAll] using hp1.blk, ⟨hp1.grown.os.trans hp.grown.os, hp1.grown.tape.trans hp.grown.tape, hp1.grown.output.trans hp.grown.output, Nat.le_trans hp.grown.size hp1.grown.size, fun k hk hne => (hp1.grown.block k (Nat.lt_of_lt_of_le hk hp.grown.size) hne).trans (hp.grown.block k hk hne)⟩⟩
    simp only [storeCells, Sem.run_bind, ha]
    rw [run_store P w _ v .plain (h1 v (by simp)), hc]
    simp only [hf, Bool.false_eq_true, if_false, Result.andThen_ok]
    exact hr
def sizeT (T : Nat → Option TI) (t m : Nat) : Bool := match T t with | some i => Nat.beq i.size m | none => false
theorem sizeT_run (hT : TabOk P T) {t m : Nat} (h : sizeT T t m = true) : (sizeOf t).run P w = .ok m w := by
  unfold sizeT at h
  split at h
  · rename_i i hi
    rw [run_size hT hi, Nat.eq_of_beq_eq_true h]
  · cases h
/-- A struct into a block of one's own that is just as great. -/
theorem wl_Sa (hT : TabOk P T) {t t' : TypeId} {x y : Operand} {g : Nat} {cs vs : List Value} (hb : w.heap[g]? = some (.cells cs.toArray t' (0, 0))) (hop : o.op = .store t x y) (hx : ev F x = .pointer (some ⟨g, 0, none⟩)) (hy : ev F y = .agg vs.toArray)
    (hs : sizeT T t vs.length = true) (hl : vs.length = cs.length) (hv : ∀ v ∈ vs, v.oneCell' = true) (hg : o.guard = none) (hd : o.dst = none)
    (k : ∀ w1, Put w w1 g vs t' → wl P n ops rest Q F w1) : wl P n ops (o :: rest) Q F w := by
  obtain ⟨w1, hr, hp⟩ := put_all (P := P) vs cs g 0 w hb (by omega) hv
  have key : ∀ (vs cs pre : List Value), vs.length = cs.length → setAll (pre ++ cs) pre.length vs = pre ++ vs := by
    intro vs
    induction vs with
    | nil => intro cs pre h; have : cs = [] := List.eq_nil_of_length_eq_zero h.symm; simp [setAll, this]
    | cons v vs ih =>
      intro cs pre h
      cases cs with
      | nil => simp at h
      | cons c cs =>
        simp only [setAll]
        have e1 : (pre ++ c :: cs).set pre.length v = (pre ++ [v]) ++ cs := by simp
        rw [e1]
        have := ih cs (pre ++ [v]) (by simpa using h)
        simp only [List.length_append, List.length_singleton] at this
        rw [this]; simp
  have e := key vs cs [] hl
  simp only [List.nil_append, List.length_nil] at e
  rw [e] at hp
  refine wl_skp hg hd ?_ (k w1 hp)
  simp [execOp, hop, hx, hy, Instr.storeAt, Instr.sureAddr, storeVar, Value.cells, sizeT_run hT hs, hr]
end
attribute [irreducible] RetW PN PX
end Go.Proofs.Ytjggjhgbobmkhaa

/- The functions of this program: each has a body. WRITTEN BY gentab.py. -/
namespace Go.Proofs.Ytjggjhgbobmkhaa
theorem fn15 : FnOk Try.prog 15 := ⟨Try.f15, Try.func15, by kernel_rfl, by kernel_rfl⟩
theorem fn16 : FnOk Try.prog 16 := ⟨Try.f16, Try.func16, by kernel_rfl, by kernel_rfl⟩
theorem fn17 : FnOk Try.prog 17 := ⟨Try.f17, Try.func17, by kernel_rfl, by kernel_rfl⟩
theorem fn21 : FnOk Try.prog 21 := ⟨Try.f21, Try.func21, by kernel_rfl, by kernel_rfl⟩
theorem fn23 : FnOk Try.prog 23 := ⟨Try.f23, Try.func23, by kernel_rfl, by kernel_rfl⟩
theorem fn24 : FnOk Try.prog 24 := ⟨Try.f24, Try.func24, by kernel_rfl, by kernel_rfl⟩
theorem fn25 : FnOk Try.prog 25 := ⟨Try.f25, Try.func25, by kernel_rfl, by kernel_rfl⟩
theorem fn26 : FnOk Try.prog 26 := ⟨Try.f26, Try.func26, by kernel_rfl, by kernel_rfl⟩
theorem fn27 : FnOk Try.prog 27 := ⟨Try.f27, Try.func27, by kernel_rfl, by kernel_rfl⟩
theorem fn28 : FnOk Try.prog 28 := ⟨Try.f28, Try.func28, by kernel_rfl, by kernel_rfl⟩
theorem fn29 : FnOk Try.prog 29 := ⟨Try.f29, Try.func29, by kernel_rfl, by kernel_rfl⟩
theorem fn30 : FnOk Try.prog 30 := ⟨Try.f30, Try.func30, by kernel_rfl, by kernel_rfl⟩
theorem fn32 : FnOk Try.prog 32 := ⟨Try.f32, Try.func32, by kernel_rfl, by kernel_rfl⟩
theorem fn33 : FnOk Try.prog 33 := ⟨Try.f33, Try.func33, by kernel_rfl, by kernel_rfl⟩
theorem fn34 : FnOk Try.prog 34 := ⟨Try.f34, Try.func34, by kernel_rfl, by kernel_rfl⟩
theorem fn36 : FnOk Try.prog 36 := ⟨Try.f36, Try.func36, by kernel_rfl, by kernel_rfl⟩
theorem fn37 : FnOk Try.prog 37 := ⟨Try.f37, Try.func37, by kernel_rfl, by kernel_rfl⟩
theorem fn38 : FnOk Try.prog 38 := ⟨Try.f38, Try.func38, by kernel_rfl, by kernel_rfl⟩
theorem fn39 : FnOk Try.prog 39 := ⟨Try.f39, Try.func39, by kernel_rfl, by kernel_rfl⟩
theorem fn40 : FnOk Try.prog 40 := ⟨Try.f40, Try.func40, by kernel_rfl, by kernel_rfl⟩
theorem fn41 : FnOk Try.prog 41 := ⟨Try.f41, Try.func41, by kernel_rfl, by kernel_rfl⟩
theorem fn42 : FnOk Try.prog 42 := ⟨Try.f42, Try.func42, by kernel_rfl, by kernel_rfl⟩
theorem fn43 : FnOk Try.prog 43 := ⟨Try.f43, Try.func43, by kernel_rfl, by kernel_rfl⟩
theorem fn44 : FnOk Try.prog 44 := ⟨Try.f44, Try.func44, by kernel_rfl, by kernel_rfl⟩
theorem fn45 : FnOk Try.prog 45 := ⟨Try.f45, Try.func45, by kernel_rfl, by kernel_rfl⟩
theorem fn47 : FnOk Try.prog 47 := ⟨Try.f47, Try.func47, by kernel_rfl, by kernel_rfl⟩
theorem fn48 : FnOk Try.prog 48 := ⟨Try.f48, Try.func48, by kernel_rfl, by kernel_rfl⟩
theorem fn49 : FnOk Try.prog 49 := ⟨Try.f49, Try.func49, by kernel_rfl, by kernel_rfl⟩
theorem fn50 : FnOk Try.prog 50 := ⟨Try.f50, Try.func50, by kernel_rfl, by kernel_rfl⟩
theorem fn51 : FnOk Try.prog 51 := ⟨Try.f51, Try.func51, by kernel_rfl, by kernel_rfl⟩
theorem fn52 : FnOk Try.prog 52 := ⟨Try.f52, Try.func52, by kernel_rfl, by kernel_rfl⟩
theorem fn53 : FnOk Try.prog 53 := ⟨Try.f53, Try.func53, by kernel_rfl, by kernel_rfl⟩
theorem fn54 : FnOk Try.prog 54 := ⟨Try.f54, Try.func54, by kernel_rfl, by kernel_rfl⟩
theorem fn55 : FnOk Try.prog 55 := ⟨Try.f55, Try.func55, by kernel_rfl, by kernel_rfl⟩
theorem fn56 : FnOk Try.prog 56 := ⟨Try.f56, Try.func56, by kernel_rfl, by kernel_rfl⟩
theorem fn57 : FnOk Try.prog 57 := ⟨Try.f57, Try.func57, by kernel_rfl, by kernel_rfl⟩
theorem fn58 : FnOk Try.prog 58 := ⟨Try.f58, Try.func58, by kernel_rfl, by kernel_rfl⟩
theorem fn59 : FnOk Try.prog 59 := ⟨Try.f59, Try.func59, by kernel_rfl, by kernel_rfl⟩
theorem fn61 : FnOk Try.prog 61 := ⟨Try.f61, Try.func61, by kernel_rfl, by kernel_rfl⟩
theorem fn62 : FnOk Try.prog 62 := ⟨Try.f62, Try.func62, by kernel_rfl, by kernel_rfl⟩
theorem fn65 : FnOk Try.prog 65 := ⟨Try.f65, Try.func65, by kernel_rfl, by kernel_rfl⟩
end Go.Proofs.Ytjggjhgbobmkhaa

/- Regions that draw their order: heads that read alone, one that makes a block, and a tail that waits for all of them. -/
namespace Go.Proofs.Ytjggjhgbobmkhaa
open Go.RowKit
set_option linter.unusedVariables false
set_option linter.unusedSimpArgs false
/-- One value, in whatever world above w0; what is called leaves all that was there. -/
def Stable (Φ : World → Prop) : Prop := ∀ w w', Φ w → Below w.heap.size w w' → Φ w'
def quB (P : Program) (o : Oper) (a : Act) (C : World → Prop) (v : Value) : Prop := ∀ w, C w → o.quietAt P a (fun w' => Below w.heap.size w w') w v
def wpQB (P : Program) (ops : Array Oper) (C : World → Prop) (Q : Act → Prop) : List Oper → Act → Prop
  | [], a => Q a
  | o :: rest, a => if Region.wanted o (yielded ops a.tmps) then ∃ v, quB P o a C v ∧ wpQB P ops C Q rest (a.put o.dst v) else wpQB P ops C Q rest (a.put o.dst undef)
theorem quB_quiet {P : Program} {o : Oper} {a : Act} {C : World → Prop} (hC : Stable C) {v : Value} (h : quB P o a C v) (w : World) (hw : C w) : o.quietAt P a C w v := by
  have h1 := h w hw
  unfold Oper.quietAt at *
  generalize (execOp a.eval o).run P w = r at *
  cases r with
  | ok n w' =>
    cases n <;> simp only [Oper.quietUpon] at h1 ⊢ <;> first | exact h1 | exact ⟨h1.1, h1.2.mono fun e w'' ⟨h2, h3⟩ => ⟨h2, hC _ _ hw h3⟩⟩
  | halt x w' => exact h1
theorem wpQB_quiet {P : Program} {ops : Array Oper} {C : World → Prop} (hC : Stable C) {Q : Act → Prop} : ∀ {rest : List Oper} {a : Act}, wpQB P ops C Q rest a → wpQuiet P ops C Q rest a
  | [], a, h => h
  | o :: rest, a, h => by
    unfold wpQB at h
    unfold wpQuiet
    split
    · rename_i hw
      rw [if_pos hw] at h
      obtain ⟨v, h1, h2⟩ := h
      exact ⟨v, fun w hw => quB_quiet hC h1 w hw, wpQB_quiet hC h2⟩
    · rename_i hw
      rw [if_neg hw] at h
      exact wpQB_quiet hC h
theorem wpQB_mono {P : Program} {ops : Array Oper} {C : World → Prop} {K K' : Act → Prop} (hk : ∀ a, K a → K' a) : ∀ {rest : List Oper} {a : Act}, wpQB P ops C K rest a → wpQB P ops C K' rest a
  | [], a, h => hk _ h
  | o :: rest, a, h => by
    unfold wpQB at h ⊢
    split
    · rename_i hw
      rw [if_pos hw] at h
      obtain ⟨v, h1, h2⟩ := h
      exact ⟨v, h1, wpQB_mono hk h2⟩
    · rename_i hw
      rw [if_neg hw] at h
      exact wpQB_mono hk h

section
variable {P : Program} {ops : Array Oper} {md : Region.Mode} {C : World → Prop}
def hUp (P : Program) (C : World → Prop) (o : Oper) (a : Act) (Φ : World → Prop) (K : (World → Prop) → Act → Prop) : Prop :=
  (∃ v, quB P o a C v ∧ K Φ (a.put o.dst v)) ∨
  (∃ Ψ : Value → World → Prop, (∀ v, Stable (Ψ v)) ∧ (∀ w, C w → Φ w → ∃ v w', (execOp a.eval o).run P w = .ok (.value v) w' ∧ C w' ∧ Ψ v w') ∧ ∀ v, K (Ψ v) (a.put o.dst v))
def hOp (P : Program) (ops : Array Oper) (C : World → Prop) (i : Nat) (Φ : World → Prop) (K : (World → Prop) → Act → Prop) (a : Act) : Prop :=
  match ops[i]? with
  | none => K Φ a
  | some o => if Region.wanted o (yielded ops a.tmps) then hUp P C o a Φ K else K Φ (a.put o.dst undef)
def wpH (P : Program) (md : Region.Mode) (ops : Array Oper) (C : World → Prop) (n : Nat) (L : Array Bool → (World → Prop) → Act → Prop) : Nat → Array Bool → (World → Prop) → Act → Prop
  | 0, listed, Φ, a => L listed Φ a
  | f + 1, listed, Φ, a => Region.ready md ops listed ≠ [] ∧ ∀ i ∈ Region.ready md ops listed, i < n ∧ hOp P ops C i Φ (fun Φ' a' => wpH P md ops C n L f (listed.setIfInBounds i true) Φ' a') a
theorem hUp_mono {o : Oper} {a : Act} {Φ : World → Prop} {K K' : (World → Prop) → Act → Prop} (h : ∀ Φ a, K Φ a → K' Φ a) (hh : hUp P C o a Φ K) : hUp P C o a Φ K' := by
  rcases hh with ⟨v, h1, h2⟩ | ⟨Ψ, h1, h2, h3⟩
  · exact .inl ⟨v, h1, h _ _ h2⟩
  · exact .inr ⟨Ψ, h1, h2, fun v => h _ _ (h3 v)⟩
theorem hOp_mono {i : Nat} {a : Act} {Φ : World → Prop} {K K' : (World → Prop) → Act → Prop} (h : ∀ Φ a, K Φ a → K' Φ a) (hh : hOp P ops C i Φ K a) : hOp P ops C i Φ K' a := by
  unfold hOp at *
  split
  · rename_i ho; simp only [ho] at hh; exact h _ _ hh
  · rename_i o ho
    simp only [ho] at hh
    split
    · rename_i hw; simp only [hw, if_true] at hh; exact hUp_mono h hh
    · rename_i hw; simp only [hw] at hh; exact h _ _ hh
theorem wp_of_hUp (hC : Stable C) {o : Oper} {a : Act} {Φ : World → Prop} {K : (World → Prop) → Act → Prop} {K' : Act → World → Prop} {Q' : Exit → Act → World → Prop} {w : World} (hw : C w) (hst : Stable Φ) (hΦ : Φ w)
    (h : ∀ Φ a w', Stable Φ → C w' → Φ w' → K Φ a → K' a w') (hh : hUp P C o a Φ K) : o.wp P a w K' Q' := by
  rcases hh with ⟨v, h1, h2⟩ | ⟨Ψ, h1, h2, h3⟩
  · have h3 := h1 w hw
    unfold Oper.quietAt at h3
    unfold Oper.wp
    generalize (execOp a.eval o).run P w = r at *
    cases r with
    | ok n w' =>
      cases n <;> simp only [Oper.quietUpon] at h3 <;> simp only [Oper.upon]
      case value u =>
        obtain ⟨e1, e2⟩ := h3
        rw [e1, e2]
        exact h _ _ _ hst hw hΦ h2
      case skip =>
        obtain ⟨e1, e2⟩ := h3
        rw [e1, ← e2]
        exact h _ _ _ hst hw hΦ h2
      case enter f args =>
        obtain ⟨e1, hc⟩ := h3
        rw [e1]
        exact hc.mono fun e w'' ⟨he, hw''⟩ => by subst he; exact h _ _ _ hst (hC _ _ hw hw'') (hst _ _ hΦ hw'') h2
    | halt x w' => simp only [Oper.quietUpon] at h3
  · obtain ⟨v, w', h4, h5, h6⟩ := h2 w hw hΦ
    unfold Oper.wp
    rw [h4]
    exact h _ _ _ (h1 v) h5 h6 (h3 v)
theorem wpOp_of_hOp (hC : Stable C) {i : Nat} {a : Act} {Φ : World → Prop} {K : (World → Prop) → Act → Prop} {K' : Act → World → Prop} {Q' : Exit → Act → World → Prop} {w : World} (hw : C w) (hst : Stable Φ) (hΦ : Φ w)
    (h : ∀ Φ a w', Stable Φ → C w' → Φ w' → K Φ a → K' a w') (hh : hOp P ops C i Φ K a) : wpOp P ops Q' i K' a w := by
  unfold hOp at hh
  unfold wpOp
  split
  · rename_i ho; simp only [ho] at hh; exact h _ _ _ hst hw hΦ hh
  · rename_i o ho
    simp only [ho] at hh
    split
    · rename_i hwn; simp only [hwn, if_true] at hh; exact .inl (wp_of_hUp hC hw hst hΦ h hh)
    · rename_i hwn; simp only [hwn] at hh; exact h _ _ _ hst hw hΦ hh
theorem wpAny_of_H (hC : Stable C) {n g : Nat} {L : Array Bool → (World → Prop) → Act → Prop} {Q' : Exit → Act → World → Prop} (hL : ∀ listed Φ a w, C w → Φ w → L listed Φ a → wpAny P md ops Q' g listed a w) :
    ∀ (f : Nat) (listed : Array Bool) (Φ : World → Prop) (a : Act) (w : World), Stable Φ → C w → Φ w → wpH P md ops C n L f listed Φ a → wpAny P md ops Q' (f + g) listed a w
  | 0, listed, Φ, a, w, _, hw, hΦ, h => by rw [Nat.zero_add]; exact hL _ _ _ _ hw hΦ h
  | f + 1, listed, Φ, a, w, hst, hw, hΦ, h => by
    rw [show f + 1 + g = (f + g) + 1 by omega]
    exact ⟨fun h0 => absurd h0 h.1, fun i hi => wpOp_of_hOp hC hw hst hΦ (fun Φ' a' w' hst' hw' hΦ' h' => wpAny_of_H hC hL f _ Φ' a' w' hst' hw' hΦ' h') (h.2 i hi).2⟩
def YieldsB (P : Program) (ops : Array Oper) (C : World → Prop) (o : Oper) (v : Value) (a : Act) : Prop :=
  (Region.wanted o (yielded ops a.tmps) = true ∧ quB P o a C v) ∨ (Region.wanted o (yielded ops a.tmps) = false ∧ v = undef)
theorem YieldsB.hOp {i : Nat} {o : Oper} {v : Value} {a : Act} (hi : ops[i]? = some o) (hy : YieldsB P ops C o v a) {Φ : World → Prop} {K : (World → Prop) → Act → Prop} (h : K Φ (a.put o.dst v)) : hOp P ops C i Φ K a := by
  unfold Proofs.Ytjggjhgbobmkhaa.hOp
  simp only [hi]
  rcases hy with ⟨hw, hv⟩ | ⟨hw, rfl⟩
  · simp only [hw, if_true]; exact .inl ⟨v, hv, h⟩
  · simp only [hw, Bool.false_eq_true, if_false]; exact h
theorem YieldsB.of_same {o : Oper} {v : Value} {a a' : Act} (hy : YieldsB P ops C o v a) (he : execOp a'.eval o = execOp a.eval o)
    (hw : Region.wanted o (yielded ops a'.tmps) = Region.wanted o (yielded ops a.tmps)) : YieldsB P ops C o v a' := by
  unfold YieldsB quB Oper.quietAt at *
  rw [he, hw]
  exact hy
theorem hOp_put {j : Nat} {oi oj : Oper} {v : Value} (hj : ops[j]? = some oj) (hap : oi.apart ops oj = true)
    (hsi : ∀ cs b, oi.op ≠ .select cs b) (hsj : ∀ cs b, oj.op ≠ .select cs b) {Φ : World → Prop} {K : (World → Prop) → Act → Prop} {a : Act}
    (hy : YieldsB P ops C oi v a) (h : hOp P ops C j Φ K (a.put oi.dst v)) :
    hOp P ops C j Φ (fun Φ' a' => YieldsB P ops C oi v a' ∧ K Φ' (a'.put oi.dst v)) a := by
  obtain ⟨h1, h2, h3⟩ := Oper.apart_spec hap
  have keep : ∀ (a : Act), YieldsB P ops C oi v a → ∀ u, YieldsB P ops C oi v (a.put oj.dst u) := fun a hy u =>
    hy.of_same (execOp_put oi hsi a oj.dst u h3) (wanted_put oi a oj.dst u h3)
  unfold Proofs.Ytjggjhgbobmkhaa.hOp at *
  simp only [hj] at *
  rw [wanted_put oj a oi.dst v h1] at h
  split
  · rename_i hw
    simp only [hw, if_true] at h
    rcases h with ⟨u, hu, hn⟩ | ⟨Ψ, g1, g2, g3⟩
    · refine .inl ⟨u, fun w hw' => ?_, keep a hy u, by rw [← Act.put_comm a v u h2]; exact hn⟩
      have := hu w hw'
      unfold Oper.quietAt at *
      rwa [execOp_put oj hsj a oi.dst v h1] at this
    · refine .inr ⟨Ψ, g1, fun w hw' hΦ' => ?_, fun u => ⟨keep a hy u, by rw [← Act.put_comm a v u h2]; exact g3 u⟩⟩
      have := g2 w hw' hΦ'
      rwa [execOp_put oj hsj a oi.dst v h1] at this
  · rename_i hw
    simp only [hw] at h
    exact ⟨keep a hy _, by rw [← Act.put_comm a v undef h2]; exact h⟩
theorem wpH_first {n i : Nat} {oi : Oper} {v : Value} {L : Array Bool → (World → Prop) → Act → Prop} (hi : ops[i]? = some oi) (hsel : ∀ (j : Nat) (o : Oper) cs b, ops[j]? = some o → o.op ≠ .select cs b)
    (hs : Region.sinkB md ops n = true) (hc : Region.chainB md ops n = true) (hn : n < ops.size) (hin : i < n)
    (hdone : ∀ listed Φ a, L listed Φ a → ∀ j ∈ Region.ready md ops listed, n ≤ j) :
    ∀ (f : Nat) (listed : Array Bool) (Φ : World → Prop) (a : Act), HeadInv md ops n listed →
      (∀ j oj, ops[j]? = some oj → j ≠ i → listed.getD j true = false → (∀ e ∈ oj.after, Region.binds md e = true → e.on ≠ i) → oi.apart ops oj = true) →
      i ∈ Region.ready md ops listed → YieldsB P ops C oi v a →
      wpH P md ops C n L f (listed.setIfInBounds i true) Φ (a.put oi.dst v) → wpH P md ops C n L (f + 1) listed Φ a := by
  intro f
  induction f with
  | zero =>
    intro listed Φ a inv _ hr hy H
    have hun := (mem_ready.1 hr).1
    refine ⟨fun h => (by rw [h] at hr; cases hr), fun j hj => ?_⟩
    have hjn : j < n := by
      rcases Nat.lt_or_ge j n with h | h
      · exact h
      · exact absurd hj (tail_waits hs hc hn inv _ i rfl hin hun j h)
    refine ⟨hjn, ?_⟩
    by_cases hji : j = i
    · subst hji; exact hy.hOp hi H
    · have := hdone _ _ _ H j (ready_mono hj hji)
      omega
  | succ f ih =>
    intro listed Φ a inv hfree hr hy H
    have hun := (mem_ready.1 hr).1
    refine ⟨fun h => (by rw [h] at hr; cases hr), fun j hj => ?_⟩
    have hjn : j < n := by
      rcases Nat.lt_or_ge j n with h | h
      · exact h
      · exact absurd hj (tail_waits hs hc hn inv _ i rfl hin hun j h)
    refine ⟨hjn, ?_⟩
    by_cases hji : j = i
    · subst hji; exact hy.hOp hi H
    · have h1 := (H.2 j (ready_mono hj hji)).2
      obtain ⟨hjun, oj, hoj, hall⟩ := mem_ready.1 hj
      have hnot : ∀ e ∈ oj.after, Region.binds md e = true → e.on ≠ i := fun e he hb heq => by
        have h1 := hall e he hb
        rw [heq, getD_both hun] at h1
        cases h1
      have h2 := hOp_put hoj (hfree j oj hoj hji hjun hnot) (fun cs b => hsel i oi cs b hi) (fun cs b => hsel j oj cs b hoj) hy h1
      have hfree' : ∀ k ok, ops[k]? = some ok → k ≠ i → (listed.setIfInBounds j true).getD k true = false →
          (∀ e ∈ ok.after, Region.binds md e = true → e.on ≠ i) → oi.apart ops ok = true := fun k ok hk hki hun hno => by
        refine hfree k ok hk hki ?_ hno
        by_cases hjk : j = k
        · subst hjk; exact hjun
        · rw [getD_set_ne true hjk] at hun; exact hun
      refine hOp_mono (fun Φ' a' h3 => ih (listed.setIfInBounds j true) Φ' a' (inv.set hj hjn) hfree' (ready_mono hr (Ne.symm hji)) h3.1 ?_) h2
      rw [Array.setIfInBounds_comm _ _ hji]
      exact h3.2
/-- A chain of operations that make blocks or write a row of one's own, each known to be the only one that may come. -/
def wpT (P : Program) (C : World → Prop) (Lq : (World → Prop) → Act → Prop) : List Oper → (World → Prop) → Act → Prop
  | [], Φ, a => Lq Φ a
  | o :: c, Φ, a => o.guard = none ∧ ∃ Ψ : Value → World → Prop, (∀ v, Stable (Ψ v)) ∧ (∀ w, C w → Φ w → ∃ v w', (execOp a.eval o).run P w = .ok (.value v) w' ∧ C w' ∧ Ψ v w') ∧ ∀ v, wpT P C Lq c (Ψ v) (a.put o.dst v)
/-- m: how many heads there are that read alone; n: where the tail begins that waits for all. -/
def tailB (md : Region.Mode) (ops : Array Oper) (m n : Nat) : Bool :=
  Region.noSelect ops && decide (n < ops.size) && decide (m ≤ n) && Region.sinkB md ops n && Region.chainB md ops n && Region.lexHead md ops (ops.size - m) m 0 (Array.replicate ops.size false)
theorem wpH_chain {n g : Nat} {Lq : (World → Prop) → Act → Prop} :
    ∀ (c : List Oper) (k : Nat) (listed : Array Bool) (Φ : World → Prop) (a : Act), (∀ j, j < c.length → c[j]? = ops[k + j]?) → k + c.length = n → Region.seqB md ops (g + c.length) k listed = true → wpT P C Lq c Φ a →
    wpH P md ops C n (fun listed' Φ' a' => Region.seqB md ops g n listed' = true ∧ Lq Φ' a') c.length listed Φ a
  | [], k, listed, Φ, a, _, hk, hB, h => by
    have : k = n := by simpa using hk
    subst this
    exact ⟨by simpa using hB, h⟩
  | o :: c, k, listed, Φ, a, hl, hk, hB, h => by
    have h0 : ops[k]? = some o := by simpa using (hl 0 (by simp)).symm
    obtain ⟨hgd, Ψ, h1, h2, h3⟩ := h
    simp only [List.length_cons] at hB hk
    rw [← Nat.add_assoc] at hB
    simp only [Region.seqB, Bool.and_eq_true, decide_eq_true_eq] at hB
    refine ⟨fun h0 => (by rw [hB.1] at h0; cases h0), fun i hi => ?_⟩
    rw [hB.1] at hi
    have hik : i = k := by simpa using hi
    subst hik
    refine ⟨by omega, ?_⟩
    unfold Proofs.Ytjggjhgbobmkhaa.hOp
    simp only [h0]
    rw [if_pos (by simp [Region.wanted, hgd])]
    exact .inr ⟨Ψ, h1, h2, fun v => wpH_chain c (i + 1) _ (Ψ v) _ (fun j hj => by have := hl (j + 1) (by simp; omega); simpa [Nat.add_assoc, Nat.add_comm 1 j] using this) (by omega) hB.2 (h3 v)⟩
theorem wpH_lex {n g : Nat} {Lq : (World → Prop) → Act → Prop} (c : List Oper) (hsel : Region.noSelect ops = true) (hs : Region.sinkB md ops n = true) (hc : Region.chainB md ops n = true) (hn : n < ops.size) :
    ∀ (l : List Oper) (k : Nat) (listed : Array Bool) (Φ : World → Prop) (a : Act), (∀ j, j < l.length → l[j]? = ops[k + j]?) → (∀ j, j < c.length → c[j]? = ops[k + l.length + j]?) → k + l.length + c.length = n → HeadInv md ops n listed →
    Region.lexHead md ops (g + c.length) l.length k listed = true → wpQB P ops C (fun a' => wpT P C Lq c Φ a') l a →
    wpH P md ops C n (fun listed' Φ' a' => Region.seqB md ops g n listed' = true ∧ Lq Φ' a') (l.length + c.length) listed Φ a
  | [], k, listed, Φ, a, _, hcl, hk, inv, hB, h => by
    simp only [List.length_nil, Nat.zero_add, Nat.add_zero] at hk hcl ⊢
    exact wpH_chain c k listed Φ a hcl hk (by simpa [Region.lexHead] using hB) h
  | o :: l, k, listed, Φ, a, hl, hcl, hk, inv, hB, h => by
    have h0 : ops[k]? = some o := by simpa using (hl 0 (by simp)).symm
    simp only [List.length_cons, Region.lexHead, Bool.and_eq_true] at hB
    obtain ⟨⟨hr, hf⟩, hB'⟩ := hB
    simp only [List.length_cons] at hk hcl
    have hkn : k < n := by omega
    have hr' : k ∈ Region.ready md ops listed := by simpa using hr
    have key : ∃ v, YieldsB P ops C o v a ∧ wpQB P ops C (fun a' => wpT P C Lq c Φ a') l (a.put o.dst v) := by
      unfold wpQB at h
      by_cases hw : Region.wanted o (yielded ops a.tmps) = true
      · rw [if_pos hw] at h
        obtain ⟨v, h1, h2⟩ := h
        exact ⟨v, .inl ⟨hw, h1⟩, h2⟩
      · rw [if_neg hw] at h
        exact ⟨undef, .inr ⟨by simpa using hw, rfl⟩, h⟩
    obtain ⟨v, hy, hK⟩ := key
    have e : (o :: l).length + c.length = l.length + c.length + 1 := by simp; omega
    rw [e]
    exact wpH_first h0 (Region.noSelect_spec hsel) hs hc hn hkn (fun listed' Φ' a' hL => seqB_ready hL.1) (l.length + c.length) listed Φ a inv (Region.free_spec h0 hf) hr' hy
      (wpH_lex c hsel hs hc hn l (k + 1) _ Φ _ (fun j hj => by have := hl (j + 1) (by simp; omega); simpa [Nat.add_assoc, Nat.add_comm 1 j] using this) (fun j hj => by have := hcl j hj; rw [this]; congr 1; omega) (by omega) (inv.set hr' hkn) hB' hK)
/-- The chain, in the worlds themselves. -/
def chainA (P : Program) (C : World → Prop) (T : Act → World → Prop) : List Oper → Act → World → Prop
  | [], a, W => T a W
  | o :: c, a, W => ∃ v w2, (execOp a.eval o).run P W = .ok (.value v) w2 ∧ C w2 ∧ ∀ W', Below w2.heap.size w2 W' → C W' → chainA P C T c (a.put o.dst v) W'
theorem wpT_of_chain {T : Act → World → Prop} : ∀ (c : List Oper) (Φ : World → Prop) (a : Act), c.all (fun o => o.guard.isNone) = true → (∀ W, C W → Φ W → chainA P C T c a W) → wpT P C (fun Φ a => ∀ W, C W → Φ W → T a W) c Φ a
  | [], Φ, a, _, h => h
  | o :: c, Φ, a, hg, h => by
    simp only [List.all_cons, Bool.and_eq_true] at hg
    refine ⟨by simpa using hg.1, fun v W => ∃ w2, Below w2.heap.size w2 W ∧ ∀ W', Below w2.heap.size w2 W' → C W' → chainA P C T c (a.put o.dst v) W', fun v w w' ⟨w2, h1, h2⟩ hb => ⟨w2, bup h1 hb, h2⟩, fun w hw hΦ => ?_, fun v => wpT_of_chain c _ _ hg.2 fun W hW ⟨w2, h1, h2⟩ => h2 W h1 hW⟩
    obtain ⟨v, w2, h1, h2, h3⟩ := h w hw hΦ
    exact ⟨v, w2, h1, h2, w2, Below.refl _ _, h3⟩
/-- Heads that read alone, a chain that makes blocks or writes a row of one's own, and a tail that is walked in its order. -/
theorem wp_region_tail {id : Nat} {Q : Exit → Act → World → Prop} {a : Act} {w : World} {l : List Oper} (m n : Nat) (hC : Stable C) (hm : P.follows .mixedOrders = true) (hB : tailB .any l.toArray m n = true) (hgd : ((l.drop m).take (n - m)).all (fun o => o.guard.isNone) = true) (hCw : C w)
    (h : wpQB P l.toArray C (fun a' => ∀ W, C W → Below w.heap.size w W → chainA P C (wpList P l.toArray Q (l.drop n)) ((l.drop m).take (n - m)) a' W) (l.take m) a) : (Code.region id l.toArray true).wp P Q a w := by
  simp only [tailB, Bool.and_eq_true, decide_eq_true_eq] at hB
  obtain ⟨⟨⟨⟨⟨hsel, hn⟩, hmn⟩, hs⟩, hc⟩, hlex⟩ := hB
  have hn' : n < l.length := by simpa using hn
  have htl : (l.take m).length = m := by simp; omega
  have hcl : ((l.drop m).take (n - m)).length = n - m := by simp; omega
  have hdl : (l.drop n).length = l.toArray.size - n := by simp
  have inv0 : HeadInv .any l.toArray n (Array.replicate l.toArray.size false) :=
    ⟨by simp, fun j oj _ hl => (by rw [getD_replicate_false] at hl; cases hl), fun t _ ht => getD_in (by simpa using ht) (getD_replicate_false _ _)⟩
  have hg : l.toArray.size - m = (l.toArray.size - n) + ((l.drop m).take (n - m)).length := by rw [hcl]; simp; omega
  have H := wpH_lex (P := P) (C := C) (md := .any) (g := l.toArray.size - n) (Lq := fun Φ a' => ∀ W, C W → Φ W → wpList P l.toArray Q (l.drop n) a' W) ((l.drop m).take (n - m)) hsel hs hc hn (l.take m) 0 _ (fun W => Below w.heap.size w W) a (fun j hj => by
    have hj' : j < m := by rw [htl] at hj; exact hj
    simp [hj']) (fun j hj => by
    rw [hcl] at hj
    rw [htl, List.getElem?_take, if_pos hj, List.getElem?_drop]
    simp) (by rw [htl, hcl]; omega) inv0 (by rw [htl, ← hg]; exact hlex) (wpQB_mono (fun a' h => wpT_of_chain _ _ _ hgd fun W hW hb => h W hW hb) h)
  refine wp_region_any hm ?_
  have hst : Stable (fun W => Below w.heap.size w W) := fun _ _ h h' => bup h h'
  have hΦ : Below w.heap.size w { w with drawn := w.drawn + 1 } := ⟨rfl, rfl, rfl, Nat.le_refl _, fun _ _ => rfl⟩
  have hw' : C { w with drawn := w.drawn + 1 } := hC _ _ hCw ⟨rfl, rfl, rfl, Nat.le_refl _, fun _ _ => rfl⟩
  have := wpAny_of_H hC (Q' := Q) (g := l.toArray.size - n) (L := fun listed' Φ' a' => Region.seqB .any l.toArray (l.toArray.size - n) n listed' = true ∧ ∀ W, C W → Φ' W → wpList P l.toArray Q (l.drop n) a' W) (fun listed Φ a' W hW hΦ hL => by
    have := wpAny_of_seq (md := .any) (Q' := Q) (l.drop n) n listed a' W (fun j => by simp [List.getElem?_drop]) (by rw [hdl]; exact hL.1) (hL.2 W hW hΦ)
    rwa [hdl] at this) _ _ (fun W => Below w.heap.size w W) a _ hst hw' hΦ H
  have e : (l.take m).length + ((l.drop m).take (n - m)).length + (l.toArray.size - n) = l.toArray.size := by rw [htl, hcl]; simp; omega
  rwa [e] at this
end
end Go.Proofs.Ytjggjhgbobmkhaa

/- What it is that a system may be (numbers alone). -/
namespace Go.Proofs.Ytjggjhgbobmkhaa
set_option linter.unusedVariables false
set_option linter.unusedSimpArgs false
def inR (a b c : Int) : Bool := decide (b ≤ a) && decide (a < c)
def cellOk (vars : Int) (c : Cell) : Bool := inR c.v 0 vars && decide (c.args.length ≤ 6) && (c.fn || decide (c.args.length = 0)) && c.args.all fun n => inR n 0 vars
def conOk (vars : Int) (cells : Nat) (c : Con) : Bool :=
  decide (1 ≤ c.k) && decide (c.k ≤ 5) && inR c.a (if c.k = 5 then -1 else 0) vars && inR c.b 0 (if c.k = 1 then (cells : Int) else vars) && decide (c.args.length ≤ 6) &&
    (decide (c.k = 5) || decide (c.args.length = 0)) && c.args.all fun n => inR n (-1) vars
def bigOk (s : Sys) : Bool := decide (0 ≤ s.vars) && decide (s.vars ≤ 16384) && decide (s.cells.length ≤ 16384) && decide (s.cons.length ≤ 131072)
def rightB (s : Sys) : Bool := bigOk s && s.cells.all (cellOk s.vars) && s.cons.all (conOk s.vars s.cells.length)

theorem right_big {s : Sys} (h : s.vars < 0 ∨ 16384 < s.vars ∨ (16384 : Int) < s.cells.length ∨ (131072 : Int) < s.cons.length) : rightB s = false := by
  have : bigOk s = false := by
    unfold bigOk
    simp only [Bool.and_eq_false_iff, decide_eq_false_iff_not]
    omega
  simp [rightB, this]
theorem mem_get {α : Type} [Inhabited α] {xs : List α} {k : Nat} (hk : k < xs.length) : xs[k]! ∈ xs := by
  rw [getElem!_pos xs k hk]; exact List.getElem_mem hk
theorem all_false {α : Type} [Inhabited α] {p : α → Bool} {xs : List α} {k : Nat} (hk : k < xs.length) (h : p xs[k]! = false) : xs.all p = false := by
  rw [List.all_eq_false]
  exact ⟨_, mem_get hk, by rw [h]; simp⟩
theorem all_true {α : Type} [Inhabited α] {p : α → Bool} {xs : List α} (h : ∀ k, k < xs.length → p xs[k]! = true) : xs.all p = true := by
  rw [List.all_eq_true]
  intro x hx
  obtain ⟨k, hk, rfl⟩ := List.getElem_of_mem hx
  have := h k hk
  rwa [getElem!_pos xs k hk] at this
theorem right_cell {s : Sys} {k : Nat} (hk : k < s.cells.length) (h : cellOk s.vars s.cells[k]! = false) : rightB s = false := by
  simp [rightB, all_false hk h]
theorem cell_head {vars : Int} {c : Cell} (h : inR c.v 0 vars = false ∨ (6 : Int) < c.args.length ∨ (c.fn = false ∧ 0 < c.args.length)) : cellOk vars c = false := by
  unfold cellOk
  rcases h with h | h | ⟨h, h'⟩
  · simp [h]
  · simp [show ¬ c.args.length ≤ 6 by omega]
  · simp [h, show ¬ c.args.length = 0 by omega]
theorem cell_bad1 {vars : Int} {c : Cell} (h : inR c.v 0 vars = false) : cellOk vars c = false := cell_head (.inl h)
theorem cell_bad2 {vars : Int} {c : Cell} (h : (6 : Int) < c.args.length) : cellOk vars c = false := cell_head (.inr (.inl h))
theorem cell_bad3 {vars : Int} {c : Cell} (h : c.fn = false) (h' : (0 : Int) < c.args.length) : cellOk vars c = false := cell_head (.inr (.inr ⟨h, by omega⟩))
theorem cell_arg {vars : Int} {c : Cell} {j : Nat} (hj : j < c.args.length) (h : inR c.args[j]! 0 vars = false) : cellOk vars c = false := by
  unfold cellOk
  rw [all_false (p := fun n => inR n 0 vars) hj h]
  simp
theorem cell_ok {vars : Int} {c : Cell} (h0 : inR c.v 0 vars = true) (h1 : (c.args.length : Int) ≤ 6) (h2 : c.fn = true ∨ c.args.length = 0) (h3 : ∀ j, j < c.args.length → inR c.args[j]! 0 vars = true) : cellOk vars c = true := by
  unfold cellOk
  rw [all_true (p := fun n => inR n 0 vars) h3, h0]
  rcases h2 with h2 | h2
  · simp [h2]; omega
  · simp [h2]
theorem right_con {s : Sys} {k : Nat} (hk : k < s.cons.length) (h : conOk s.vars s.cells.length s.cons[k]! = false) : rightB s = false := by
  simp [rightB, all_false hk h]
theorem right_all {s : Sys} (h0 : 0 ≤ s.vars) (h1 : s.vars ≤ 16384) (h2 : (s.cells.length : Int) ≤ 16384) (h3 : (s.cons.length : Int) ≤ 131072)
    (hc : ∀ k, k < s.cells.length → cellOk s.vars s.cells[k]! = true) (hn : ∀ k, k < s.cons.length → conOk s.vars s.cells.length s.cons[k]! = true) : rightB s = true := by
  unfold rightB bigOk
  rw [all_true hc, all_true hn]
  simp; omega
theorem all_ge {p : Nat → Prop} {k n : Nat} (h : ∀ j, j < k → p j) (hk : ¬ k < n) : ∀ j, j < n → p j := fun j hj => h j (by omega)
theorem all_succ {p : Nat → Prop} {k : Nat} (h : ∀ j, j < k → p j) (hk : p k) : ∀ j, j < k + 1 → p j := fun j hj => by
  rcases Nat.lt_or_ge j k with h1 | h1
  · exact h j h1
  · have : j = k := by omega
    subst this; exact hk
/-- All of it but the arguments. -/
def conHead (vars : Int) (cells : Nat) (c : Con) : Bool :=
  decide (1 ≤ c.k) && decide (c.k ≤ 5) && inR c.a (if c.k = 5 then -1 else 0) vars && inR c.b 0 (if c.k = 1 then (cells : Int) else vars) && decide (c.args.length ≤ 6) &&
    (decide (c.k = 5) || decide (c.args.length = 0))
theorem con_head {vars : Int} {cells : Nat} {c : Con} (h : conHead vars cells c = false) : conOk vars cells c = false := by
  unfold conOk
  unfold conHead at h
  rw [h]; rfl
theorem con_arg {vars : Int} {cells : Nat} {c : Con} {j : Nat} (hj : j < c.args.length) (h : inR c.args[j]! (-1) vars = false) : conOk vars cells c = false := by
  unfold conOk
  rw [all_false (p := fun n => inR n (-1) vars) hj h]
  simp
theorem con_ok {vars : Int} {cells : Nat} {c : Con} (h : conHead vars cells c = true) (h3 : ∀ j, j < c.args.length → inR c.args[j]! (-1) vars = true) : conOk vars cells c = true := by
  unfold conOk
  unfold conHead at h
  rw [all_true (p := fun n => inR n (-1) vars) h3, h]; rfl
section
variable {vars : Int} {cells : Nat} {c : Con}
theorem con_badn (h : c.k < 1 ∨ 5 < c.k ∨ (6 : Int) < c.args.length ∨ (¬ c.k = 5 ∧ (0 : Int) < c.args.length)) : conHead vars cells c = false := by
  unfold conHead
  rcases h with h | h | h | ⟨h, h'⟩
  · simp [show ¬ 1 ≤ c.k by omega]
  · simp [show ¬ c.k ≤ 5 by omega]
  · simp [show ¬ c.args.length ≤ 6 by omega]
  · simp [h, show ¬ c.args.length = 0 by omega, show ¬ c.args = [] by intro e; rw [e] at h'; simp at h']
theorem con_badA5 (h5 : c.k = 5) (h : inR c.a (-1) vars = false) : conHead vars cells c = false := by unfold conHead; simp [h5, h]
theorem con_badA (h5 : ¬ c.k = 5) (h : inR c.a 0 vars = false) : conHead vars cells c = false := by unfold conHead; simp [h5, h]
theorem con_badB1 (h1 : c.k = 1) (h : inR c.b 0 cells = false) : conHead vars cells c = false := by unfold conHead; simp [h1, h]
theorem con_badB (h1 : ¬ c.k = 1) (h : inR c.b 0 vars = false) : conHead vars cells c = false := by unfold conHead; simp [h1, h]
theorem con_good5 (h5 : c.k = 5) (ha : inR c.a (-1) vars = true) (hb : inR c.b 0 vars = true) (hl : (c.args.length : Int) ≤ 6) : conHead vars cells c = true := by
  unfold conHead; simp [h5, ha, hb]; omega
theorem con_good1 (h1 : c.k = 1) (ha : inR c.a 0 vars = true) (hb : inR c.b 0 cells = true) (hl : ¬ (0 : Int) < c.args.length) : conHead vars cells c = true := by
  have : c.args = [] := List.eq_nil_of_length_eq_zero (by omega)
  unfold conHead; simp [h1, ha, hb, this]
theorem con_goodk (h1 : 1 ≤ c.k) (h2 : c.k ≤ 5) (h3 : ¬ c.k = 1) (h4 : ¬ c.k = 5) (ha : inR c.a 0 vars = true) (hb : inR c.b 0 vars = true) (hl : ¬ (0 : Int) < c.args.length) : conHead vars cells c = true := by
  have : c.args = [] := List.eq_nil_of_length_eq_zero (by omega)
  unfold conHead; simp [h1, h2, h3, h4, ha, hb, this]
end
section
variable {vars : Int} {cells : Nat} {c : Con}
theorem con_val1 (h1 : c.k = 1) : conOk vars cells c = (inR c.a 0 vars && inR c.b 0 cells && decide ((c.args.length : Int) = 0)) := by
  unfold conOk
  cases hl : c.args with
  | nil => simp [h1, hl]
  | cons a l => simp [h1, hl]; intros; omega
theorem con_valk (h1 : 2 ≤ c.k) (h2 : c.k ≤ 4) : conOk vars cells c = (inR c.a 0 vars && inR c.b 0 vars && decide ((c.args.length : Int) = 0)) := by
  unfold conOk
  have e1 : ¬ c.k = 1 := by omega
  have e5 : ¬ c.k = 5 := by omega
  cases hl : c.args with
  | nil => simp [e1, e5, hl, show 1 ≤ c.k by omega, show c.k ≤ 5 by omega]
  | cons a l => simp [e1, e5, hl]; intros; omega
theorem con_val5 (h5 : c.k = 5) (hall : (c.args.all fun n => inR n (-1) vars) = true) : conOk vars cells c = (inR c.a (-1) vars && inR c.b 0 vars && decide ((c.args.length : Int) ≤ 6)) := by
  unfold conOk
  rw [hall]
  simp [h5]
  congr 1
  rw [decide_eq_decide]
  omega
theorem con_valn (h : c.k < 1 ∨ 5 < c.k) : conOk vars cells c = false := con_head (con_badn (by omega))
end
end Go.Proofs.Ytjggjhgbobmkhaa

/- What is read, in the calculus' forms; rows that are made and grow. -/
namespace Go.Proofs.Ytjggjhgbobmkhaa
open Go.RowKit
set_option linter.unusedVariables false
set_option linter.unusedSimpArgs false
theorem cellsAt_of {w : World} {a : Addr} : ∀ (cs : List Value) (i : Nat), (∀ j u, cs[j]? = some u → w.cell? (a.add (i + j)) = some u) → cellsAt w a i cs
  | [], _, _ => trivial
  | c :: cs, i, h => ⟨by simpa using h 0 c rfl, cellsAt_of cs (i + 1) fun j u hu => by have := h (j + 1) u (by simpa using hu); rwa [show i + (j + 1) = i + 1 + j by omega] at this⟩
theorem cellsAt_up {w w1 : World} (hb : Below w.heap.size w w1) {a : Addr} : ∀ {cs : List Value} {i : Nat}, cellsAt w a i cs → cellsAt w1 a i cs
  | [], _, _ => trivial
  | c :: cs, i, ⟨h, hs⟩ => ⟨cell_up hb h, cellsAt_up hb hs⟩
theorem row_at {α : Type} [Inhabited α] {sz : Nat} {d : Dec α} {w : World} {A : Option Addr} {xs : List α} (h : RowR sz d w A xs) (i : Nat) (hi : i < xs.length) :
    ∃ ad cs, A = some ad ∧ cs.length = sz ∧ cellsAt w (ad.add (i * sz)) 0 cs ∧ d w cs xs[i]! := by
  obtain ⟨ad, cs, e, l, hc, hd⟩ := h.2 i hi
  exact ⟨ad, cs, e, l, cellsAt_of cs 0 fun j u hu => by rw [add_add, Nat.zero_add]; exact hc j u hu, hd⟩
/-- An element behind a name. -/
theorem intsE {w : World} {A : Option Addr} {xs : List Int} (h : RI w A xs) (i : Nat) (hi : i < xs.length) :
    ∃ x ad, Kp (xs[i]! = x) ∧ A = some ad ∧ w.cell? (ad.add (i * 1)) = some (.int .i64 x) ∧ -9223372036854775808 ≤ x ∧ x ≤ 9223372036854775807 := by
  obtain ⟨ad, cs, e, l, hc, rfl, r⟩ := row_at h i hi
  exact ⟨_, ad, ⟨rfl⟩, e, hc.1, r⟩
theorem rowsE {w : World} {A : Option Addr} {xs : List (List Int)} (h : RRows w A xs) (i : Nat) (hi : i < xs.length) :
    ∃ x ad B c, Kp (xs[i]! = x) ∧ A = some ad ∧ w.cell? (ad.add (i * 1)) = some (.slice B x.length c) ∧ x.length ≤ c ∧ Kp (RI w B x) := by
  obtain ⟨ad, cs, e, l, hc, B, c, rfl, hl, r⟩ := row_at h i hi
  exact ⟨_, ad, B, c, ⟨rfl⟩, e, hc.1, hl, ⟨r⟩⟩
theorem cellsE {w : World} {A : Option Addr} {xs : List Cell} (h : RCells w A xs) (i : Nat) (hi : i < xs.length) :
    ∃ x ad B c, Kp (xs[i]! = x) ∧ A = some ad ∧ cellsAt w (ad.add (i * 3)) 0 [.bool x.fn, .int .i64 x.v, .slice B x.args.length c] ∧ x.args.length ≤ c ∧ Kp (RI w B x.args) ∧ -9223372036854775808 ≤ x.v ∧ x.v ≤ 9223372036854775807 := by
  obtain ⟨ad, cs, e, l, hc, B, c, rfl, hl, r, hr⟩ := row_at h i hi
  exact ⟨_, ad, B, c, ⟨rfl⟩, e, hc, hl, ⟨r⟩, hr⟩
theorem consE {w : World} {A : Option Addr} {xs : List Con} (h : RCons w A xs) (i : Nat) (hi : i < xs.length) :
    ∃ x ad B c, Kp (xs[i]! = x) ∧ A = some ad ∧ cellsAt w (ad.add (i * 4)) 0 [.int .u8 x.k, .int .i64 x.a, .int .i64 x.b, .slice B x.args.length c] ∧ x.args.length ≤ c ∧ Kp (RI w B x.args) ∧ 0 ≤ x.k ∧ x.k ≤ 255 ∧
      (-9223372036854775808 ≤ x.a ∧ x.a ≤ 9223372036854775807) ∧ -9223372036854775808 ≤ x.b ∧ x.b ≤ 9223372036854775807 := by
  obtain ⟨ad, cs, e, l, hc, B, c, rfl, hl, r, hk, ha, hb⟩ := row_at h i hi
  exact ⟨_, ad, B, c, ⟨rfl⟩, e, hc, hl, ⟨r⟩, hk.1, hk.2, ha, hb⟩
theorem actsE {w : World} {A : Option Addr} {xs : List AAct} (h : RActs w A xs) (i : Nat) (hi : i < xs.length) :
    ∃ x ad, Kp (xs[i]! = x) ∧ A = some ad ∧ cellsAt w (ad.add (i * 4)) 0 [.int .u8 x.k, .int .u8 x.a, .int .u8 x.b, .int .u8 x.c] ∧ (0 ≤ x.k ∧ x.k ≤ 255) ∧ (0 ≤ x.a ∧ x.a ≤ 255) ∧ (0 ≤ x.b ∧ x.b ≤ 255) ∧ 0 ≤ x.c ∧ x.c ≤ 255 := by
  obtain ⟨ad, cs, e, l, hc, rfl, hr⟩ := row_at h i hi
  exact ⟨_, ad, ⟨rfl⟩, e, hc, hr⟩
/-- A block stays. -/
theorem blk_up {w w1 : World} (hb : Below w.heap.size w w1) {g : Nat} {o : Obj} (h : w.heap[g]? = some o) : w1.heap[g]? = some o := by
  rw [hb.block g (Array.getElem?_eq_some_iff.1 h).1]; exact h
theorem blk_lt {w : World} {g : Nat} {o : Obj} (h : w.heap[g]? = some o) : g < w.heap.size := (Array.getElem?_eq_some_iff.1 h).1
theorem New.up {w0 w w1 : World} {g : Nat} {cs : List Value} {t : TypeId} (h : New w w1 g cs t) (hb : Below w0.heap.size w0 w) : Below w0.heap.size w0 w1 := bup hb h.below

section
variable {P : Program} {T : Nat → Option TI} {n : Nat} {Q : Post} {F : Fm} {w : World} {ops : Array Oper} {rest : List Oper} {o : Oper}
/-! ### regions that draw their order and read alone -/
abbrev Bw (w : World) : World → Prop := fun w' => Below w.heap.size w w'
theorem stable_Bw (w : World) : Stable (Bw w) := fun _ _ h h' => bup h h'
/-- A row may have been written, or more may have been made. -/
abbrev Gw (w : World) (row : Option Nat) : World → Prop := fun w' => w.grownBy w' row
theorem stable_Gw (w : World) (row : Option Nat) : Stable (Gw w row) := fun _ _ h h' => ⟨h'.os.trans h.os, h'.tape.trans h.tape, h'.output.trans h.output, Nat.le_trans h.size h'.size, fun k hk hne => (h'.block k (Nat.lt_of_lt_of_le hk h.size)).trans (h.block k hk hne)⟩
structure wq (P : Program) (n : Nat) (ops : Array Oper) (C : World → Prop) (rest : List Oper) (K : Fm → Prop) (F : Fm) : Prop where
  go : ∀ a, Fr a n F → wpQB P ops C (fun a' => ∃ F', Fr a' n F' ∧ K F') rest a
theorem wc_q {id : Nat} {l : List Oper} (hm : P.follows .mixedOrders = true) (hB : Region.lexB .any l.toArray = true) (h : wq P n l.toArray (Bw w) l (fun F' => ∀ w', Below w.heap.size w w' → PN Q F' w') F) : wc P n (.region id l.toArray true) Q F w := by
  unfold wc
  intro a ha
  refine wp_region_quiet (C := fun w' => Below w.heap.size w w') hm hB ⟨rfl, rfl, rfl, Nat.le_refl _, fun _ _ => rfl⟩ ?_
  refine wpQB_quiet (stable_Bw w) (wpQB_mono ?_ (by simpa using h.go a ha))
  rintro a' ⟨F', h2, h3⟩ w' hw'
  have := h3 w' hw'
  unfold PN at this
  exact ⟨F', h2, this⟩
variable {K : Fm → Prop} {C : World → Prop}
theorem wq_nil (h : K F) : wq P n ops C [] K F := ⟨fun a ha => ⟨F, ha, h⟩⟩
theorem wq_val {v : Value} {d : Nat} (hg : o.guard = none) (hd : o.dst = some d) (hn : Nat.blt d n = true) (hrun : ∀ w', C w' → (execOp (ev F) o).run P w' = .ok (.value v) w') (k : wq P n ops C rest K (upd F d v)) : wq P n ops C (o :: rest) K F :=
  ⟨fun a ha => by
    unfold wpQB
    rw [if_pos (by simp [Region.wanted, hg])]
    refine ⟨v, fun w' hw' => ?_, k.go _ ?_⟩
    · unfold Oper.quietAt
      rw [ha.eval, hrun w' hw']
      exact ⟨rfl, rfl⟩
    · have := ha.put (dst_some hd hn) v
      rw [hd] at this ⊢
      exact this⟩
theorem wq_P (hT : TabOk P T) {v : Value} (h : pureF T o.op F = some v) (hg : o.guard = none) {d : Nat} (hd : o.dst = some d) (hn : Nat.blt d n = true) (k : wq P n ops C rest K (upd F d v)) : wq P n ops C (o :: rest) K F :=
  wq_val hg hd hn (fun _ _ => pure_ok hT h) k
theorem wq_L (hT : TabOk P T) {t : TypeId} {x : Operand} {a : Addr} {v : Value} (hop : o.op = .load t x) (hx : ev F x = .pointer (some a)) (h1 : oneT T t = true) (hg : o.guard = none) {d : Nat} (hd : o.dst = some d) (hn : Nat.blt d n = true)
    (hc : w.cell? a = some v) (k : wq P n ops (Bw w) rest K (upd F d v)) : wq P n ops (Bw w) (o :: rest) K F :=
  wq_val hg hd hn (fun w' hw' => by simp [execOp, hop, hx, Instr.loadAt, Instr.sureAddr, run_load_one hT h1 (cell_up hw' hc)]) k
theorem wq_LC (hT : TabOk P T) {t : TypeId} {x : Operand} {a : Addr} {v : Value} (hc : ∀ w', C w' → w'.cell? a = some v) (hop : o.op = .load t x) (hx : ev F x = .pointer (some a)) (h1 : oneT T t = true) (hg : o.guard = none) {d : Nat} (hd : o.dst = some d) (hn : Nat.blt d n = true)
    (k : wq P n ops C rest K (upd F d v)) : wq P n ops C (o :: rest) K F :=
  wq_val hg hd hn (fun w' hw' => by simp [execOp, hop, hx, Instr.loadAt, Instr.sureAddr, run_load_one hT h1 (hc w' hw')]) k
theorem wq_LgC (hT : TabOk P T) {t t' : TypeId} {x : Operand} {g off : Nat} {cs : Array Value} {fr : Nat × Nat} {v : Value} (hb : ∀ w', C w' → w'.heap[g]? = some (.cells cs t' fr)) (hop : o.op = .load t x) (hx : ev F x = .pointer (some ⟨g, off, none⟩)) (h1 : oneT T t = true) (hg : o.guard = none) {d : Nat} (hd : o.dst = some d) (hn : Nat.blt d n = true)
    (hv : cs[off]? = some v) (k : wq P n ops C rest K (upd F d v)) : wq P n ops C (o :: rest) K F := wq_LC hT (fun w' hw' => cell_blk (hb w' hw') hv) hop hx h1 hg hd hn k
theorem wq_Lg (hT : TabOk P T) {t t' : TypeId} {x : Operand} {g off : Nat} {cs : Array Value} {fr : Nat × Nat} {v : Value} (hb : w.heap[g]? = some (.cells cs t' fr)) (hop : o.op = .load t x) (hx : ev F x = .pointer (some ⟨g, off, none⟩)) (h1 : oneT T t = true) (hg : o.guard = none) {d : Nat} (hd : o.dst = some d) (hn : Nat.blt d n = true)
    (hv : cs[off]? = some v) (k : wq P n ops (Bw w) rest K (upd F d v)) : wq P n ops (Bw w) (o :: rest) K F := wq_L hT hop hx h1 hg hd hn (cell_blk hb hv) k
theorem wq_La (hT : TabOk P T) {t : TypeId} {x : Operand} {a : Addr} {vs : List Value} (hc : cellsAt w a 0 vs) (hop : o.op = .load t x) (hx : ev F x = .pointer (some a)) (h1 : aggT T t vs.length = true) (hg : o.guard = none) {d : Nat} (hd : o.dst = some d) (hn : Nat.blt d n = true)
    (k : wq P n ops (Bw w) rest K (upd F d (.agg vs.toArray))) : wq P n ops (Bw w) (o :: rest) K F :=
  wq_val hg hd hn (fun w' hw' => by
    have h2 := aggT_run (P := P) (w := w') hT h1
    have h3 := run_loadCells (P := P) vs 0 #[] (cellsAt_up hw' hc)
    simp [execOp, hop, hx, Instr.loadAt, Instr.sureAddr, loadVar, h2, loadCells, h3]) k
theorem wq_LaC (hT : TabOk P T) {t : TypeId} {x : Operand} {a : Addr} {vs : List Value} (hc : ∀ w', C w' → cellsAt w' a 0 vs) (hop : o.op = .load t x) (hx : ev F x = .pointer (some a)) (h1 : aggT T t vs.length = true) (hg : o.guard = none) {d : Nat} (hd : o.dst = some d) (hn : Nat.blt d n = true)
    (k : wq P n ops C rest K (upd F d (.agg vs.toArray))) : wq P n ops C (o :: rest) K F :=
  wq_val hg hd hn (fun w' hw' => by
    have h2 := aggT_run (P := P) (w := w') hT h1
    have h3 := run_loadCells (P := P) vs 0 #[] (hc w' hw')
    simp [execOp, hop, hx, Instr.loadAt, Instr.sureAddr, loadVar, h2, loadCells, h3]) k
theorem wq_X (hT : TabOk P T) (e s : Nat) {t : TypeId} {x ix : Operand} {a : Addr} {len cap : Nat} {ki : IntKind} {i : Int} (hop : o.op = .indexAddr t x ix) (hx : ev F x = .slice (some a) len cap) (hi : ev F ix = .int ki i) (h1 : sliceT T t e s = true) (hg : o.guard = none) {d : Nat} (hd : o.dst = some d) (hn : Nat.blt d n = true)
    (h0 : 0 ≤ i) (hl : i < len) (k : wq P n ops C rest K (upd F d (.pointer (some (a.add (i.toNat * s)))))) : wq P n ops C (o :: rest) K F :=
  wq_val hg hd hn (fun w' _ => by
    obtain ⟨hu, hs⟩ := sliceT_ok (w := w') hT h1
    simp [execOp, hop, hx, hi, Instr.indexAt, asIntOf, run_und hu, hs, h0, hl]) k
theorem wq_Xn (hT : TabOk P T) (e s : Nat) {t : TypeId} {x ix : Operand} {a : Addr} {len cap : Nat} {ki : IntKind} {i : Nat} (hop : o.op = .indexAddr t x ix) (hx : ev F x = .slice (some a) len cap) (hi : ev F ix = .int ki i) (h1 : sliceT T t e s = true) (hg : o.guard = none) {d : Nat} (hd : o.dst = some d) (hn : Nat.blt d n = true)
    (hl : i < len) (k : wq P n ops C rest K (upd F d (.pointer (some (a.add (i * s)))))) : wq P n ops C (o :: rest) K F :=
  wq_X hT e s hop hx hi h1 hg hd hn (by omega) (by omega) (by simpa using k)
/-- A callee that makes nothing that lasts, in whatever world. -/
theorem wq_C {f : FuncId} {c : Call} {x : Operand} {args : List Value} {v : Value} (hf : FnOk P f) (hc : ∀ w', C w' → Calls P f args.toArray w' (fun e w'' => e = .returned v ∧ Below w'.heap.size w' w'')) (hop : o.op = .call c) (hcal : c.callee = .value x) (hx : ev F x = .func (.func f) #[] #[]) (hargs : c.args.toList.map (ev F) = args) (hg : o.guard = none) {d : Nat} (hd : o.dst = some d) (hn : Nat.blt d n = true)
    (k : wq P n ops C rest K (upd F d v)) : wq P n ops C (o :: rest) K F :=
  ⟨fun a ha => by
    unfold wpQB
    rw [if_pos (by simp [Region.wanted, hg])]
    refine ⟨v, fun w' hw' => ?_, k.go _ ?_⟩
    · unfold Oper.quietAt
      have e : c.args.map (ev F) = args.toArray := Array.toList_inj.1 (by rw [Array.toList_map, hargs])
      have e2 : (execOp (ev F) o).run P w' = .ok (.enter f args.toArray) w' := by
        simp [execOp, hop, resolve, hcal, hx, Deferred.ofValue, e, invoke, run_callFunc hf]
      rw [ha.eval, e2]
      exact ⟨rfl, (hc w' hw').mono fun _ _ h => h⟩
    · have := ha.put (dst_some hd hn) v
      rw [hd] at this ⊢
      exact this⟩
theorem wq_gT {j : Nat} {b : Bool} {oj : Oper} {t : Tmp} (hg : o.guard = some (j, b)) (hj : ops[j]? = some oj) (ht : oj.dst = some t) (hb : F t = .bool b) (hn : Nat.blt t n = true) (k : wq P n ops C (ung o :: rest) K F) : wq P n ops C (o :: rest) K F := ⟨fun a ha => by
  have hlt : t < a.tmps.size := by rw [ha.size]; exact nblt hn
  have h1 := ha.get t
  rw [hb, Array.getD_eq_getD_getElem?, Array.getElem?_eq_getElem hlt] at h1
  have hw : Region.wanted o (yielded ops a.tmps) = true := by
    simp only [Region.wanted, hg, yielded, hj, Option.bind_some, ht, Array.getElem?_eq_getElem hlt]
    simp at h1
    simp [h1]
  have hk := k.go a ha
  unfold wpQB at hk ⊢
  rw [if_pos hw]
  rw [if_pos (by simp [Region.wanted, ung])] at hk
  exact hk⟩
theorem wq_gF {j : Nat} {b c : Bool} {oj : Oper} {t : Tmp} (hg : o.guard = some (j, b)) (hj : ops[j]? = some oj) (ht : oj.dst = some t) (hb : F t = .bool c) (hne : (c == b) = false) (hn : Nat.blt t n = true) {d : Nat} (hd : o.dst = some d) (hdn : Nat.blt d n = true) (k : wq P n ops C rest K (upd F d undef)) : wq P n ops C (o :: rest) K F := ⟨fun a ha => by
  have hlt : t < a.tmps.size := by rw [ha.size]; exact nblt hn
  have h1 := ha.get t
  rw [hb, Array.getD_eq_getD_getElem?, Array.getElem?_eq_getElem hlt] at h1
  have hw : Region.wanted o (yielded ops a.tmps) = false := by
    simp only [Region.wanted, hg, yielded, hj, Option.bind_some, ht, Array.getElem?_eq_getElem hlt]
    simp at h1
    simp [h1]
    simpa using hne
  have hk := k.go _ (by have := ha.put (dst_some hd hdn) undef; rw [hd] at this; exact this)
  rw [← hd] at hk
  unfold wpQB
  rw [hw]
  simpa using hk⟩
theorem wq_gU {j : Nat} {b : Bool} {oj : Oper} {t : Tmp} (hg : o.guard = some (j, b)) (hj : ops[j]? = some oj) (ht : oj.dst = some t) (hb : F t = undef) (hn : Nat.blt t n = true) {d : Nat} (hd : o.dst = some d) (hdn : Nat.blt d n = true) (k : wq P n ops C rest K (upd F d undef)) : wq P n ops C (o :: rest) K F := ⟨fun a ha => by
  have hlt : t < a.tmps.size := by rw [ha.size]; exact nblt hn
  have h1 := ha.get t
  rw [hb, Array.getD_eq_getD_getElem?, Array.getElem?_eq_getElem hlt] at h1
  have hw : Region.wanted o (yielded ops a.tmps) = false := by
    simp only [Region.wanted, hg, yielded, hj, Option.bind_some, ht, Array.getElem?_eq_getElem hlt]
    simp at h1
    simp [h1, undef]
  have hk := k.go _ (by have := ha.put (dst_some hd hdn) undef; rw [hd] at this; exact this)
  rw [← hd] at hk
  unfold wpQB
  rw [hw]
  simpa using hk⟩
theorem wq_add {x y : Operand} {xt yt : TypeId} {a b : Int} (hop : o.op = .binOp .add xt x y yt) (hx : ev F x = .int .i64 a) (hy : ev F y = .int .i64 b) (hg : o.guard = none) {d : Nat} (hd : o.dst = some d) (hn : Nat.blt d n = true)
    (h1 : -9223372036854775808 ≤ a + b) (h2 : a + b ≤ 9223372036854775807) (k : wq P n ops C rest K (upd F d (.int .i64 (a + b)))) : wq P n ops C (o :: rest) K F :=
  wq_val hg hd hn (fun _ _ => by simp [execOp, hop, hx, hy, eqGuard, binOp, Op.intArith, wrap_in h1 h2]) k
theorem wq_sub {x y : Operand} {xt yt : TypeId} {a b : Int} (hop : o.op = .binOp .sub xt x y yt) (hx : ev F x = .int .i64 a) (hy : ev F y = .int .i64 b) (hg : o.guard = none) {d : Nat} (hd : o.dst = some d) (hn : Nat.blt d n = true)
    (h1 : -9223372036854775808 ≤ a - b) (h2 : a - b ≤ 9223372036854775807) (k : wq P n ops C rest K (upd F d (.int .i64 (a - b)))) : wq P n ops C (o :: rest) K F :=
  wq_val hg hd hn (fun _ _ => by simp [execOp, hop, hx, hy, eqGuard, binOp, Op.intArith, wrap_in h1 h2]) k
end
theorem mixed : Try.prog.follows .mixedOrders = true := by kernel_rfl
end Go.Proofs.Ytjggjhgbobmkhaa
