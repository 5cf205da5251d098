/- Operations, each by one lemma. -/
import Derived.Test.YtkjbkalakafnlaaDoorTB
import Derived.Laws.Tables
namespace Go.Proofs.YtkjbkalakafnlaaDoor
open Go.RowKit
set_option linter.unusedVariables false
set_option linter.unusedSimpArgs false

/-! ### operations that look at no memory -/
/-- A value laid open. -/
def opn : Value → Option Value
  | .bool b => some (.bool b)
  | .int k n => some (.int k n)
  | .float k b => some (.float k b)
  | .complex k x y => some (.complex k x y)
  | .string s => some (.string s)
  | .pointer a => some (.pointer a)
  | .slice a n c => some (.slice a n c)
  | .map r => some (.map r)
  | .chan r => some (.chan r)
  | .func f a c => some (.func f a c)
  | .nilFunc => some .nilFunc
  | .iface t v => some (.iface t v)
  | .nilIface => some .nilIface
  | .agg cs => some (.agg cs)
  | .tuple vs => some (.tuple vs)
theorem opn_eq (v : Value) : opn v = some v := by cases v <;> rfl
def kEq : IntKind → IntKind → Bool
  | .i8, .i8 | .i16, .i16 | .i32, .i32 | .i64, .i64 | .u8, .u8 | .u16, .u16 | .u32, .u32 | .u64, .u64 => true
  | _, _ => false
theorem kEq_eq {a b : IntKind} (h : kEq a b = true) : a = b := by cases a <;> cases b <;> first | rfl | cases h
def intOp (op : BinOp) (k : IntKind) (a b : Int) : Option Value :=
  match op with
  | .eql => some (.bool (decide (a = b)))
  | .neq => some (.bool (decide (¬ a = b)))
  | .lss => some (.bool (decide (a < b)))
  | .leq => some (.bool (decide (a ≤ b)))
  | .gtr => some (.bool (decide (b < a)))
  | .geq => some (.bool (decide (b ≤ a)))
  | _ => none
def addO (a : Addr) (o : Nat) : Addr := bif Nat.beq o 0 then a else a.add o
theorem addO_eq (a : Addr) (o : Nat) : addO a o = a.add o := by
  unfold addO
  by_cases h : o = 0
  · subst h; rw [nbeq_self]; simp [Addr.add]
  · rw [nbeq_ne h]; rfl
def setAll (cs : List Value) : Nat → List Value → List Value
  | _, [] => cs
  | k, v :: vs => setAll (cs.set k v) (k + 1) vs
/-- A list laid open. -/
def opnL : List Value → Option (List Value)
  | [] => some []
  | v :: l => match opnL l with
    | some l' => some (v :: l')
    | none => none
theorem opnL_eq : ∀ l : List Value, opnL l = some l
  | [] => rfl
  | v :: l => by simp [opnL, opnL_eq l]
/-- Parts laid over cells. -/
def bld (F : Fm) (place : Nat → Option (Nat × Nat)) : List (Nat × Operand) → List Value → Option (List Value)
  | [], cs => opnL cs
  | (i, x) :: ps, cs => match place i with
    | none => none
    | some (off, size) => match ev F x with
      | .agg vs => bif Nat.beq vs.toList.length size && Nat.ble (off + size) cs.length then bld F place ps (setAll cs off vs.toList) else none
      | .tuple _ => none
      | v => bif Nat.beq size 1 && Nat.ble (off + 1) cs.length then (match opn v with | some v => bld F place ps (cs.set off v) | none => none) else none
def placesL (T : Nat → Option TI) : List Field → Option (List (Nat × Nat))
  | [] => some []
  | f :: fs => match T f.type with
    | some ti => match placesL T fs with
      | some l => some ((f.offset, ti.size) :: l)
      | none => none
    | none => none
def pureF (T : Nat → Option TI) (op : Op) (F : Fm) : Option Value :=
  match op with
  | .move x | .assign x => opn (ev F x)
  | .pick c a b => match ev F c with | .bool true => opn (ev F a) | .bool false => opn (ev F b) | _ => none
  | .binOp op xt x y _ => match ev F x, ev F y with
    | .int k a, .int k' b => bif kEq k k' then intOp op k a b else none
    | .bool a, .bool b => match op, T xt with
      | .eql, some ⟨.bool, _, _, _⟩ => some (.bool (a == b))
      | .neq, some ⟨.bool, _, _, _⟩ => some (.bool (!(a == b)))
      | _, _ => none
    | _, _ => none
  | .unOp .not _ x => match ev F x with | .bool b => some (.bool (!b)) | _ => none
  | .unOp .neg _ x => match ev F x with | .int k a => some (.int k (k.wrap (0 - a))) | _ => none
  | .fieldAddr s x f => match T s, ev F x with
    | some ⟨.struct fs, _, _, _⟩, .pointer (some a) => match fs[f]? with
      | some fl => match T fl.type with
        | some ⟨_, (_ + 1), _, _⟩ => some (.pointer (some (addO a fl.offset)))
        | _ => none
      | none => none
    | _, _ => none
  | .field s x f => match T s, ev F x with
    | some ⟨.struct fs, _, _, _⟩, .agg cs => match fs[f]? with
      | some fl => match T fl.type with
        | some ⟨.struct _, _, _, _⟩ => none
        | some ⟨.array _ _, _, _, _⟩ => none
        | some _ => cs[fl.offset]?
        | none => none
      | none => none
    | _, _ => none
  | .nilCheck x => match ev F x with | .pointer (some a) => some (.pointer (some a)) | _ => none
  | .extract x i => match ev F x with | .tuple vs => vs[i]? | _ => none
  | .build t parts => match T t with
    | some ⟨.struct fs, _, _, .agg z⟩ => match placesL T fs.toList with
      | some pl => match bld F (fun i => pl[i]?) parts.toList z.toList with
        | some cs => some (.agg cs.toArray)
        | none => none
      | none => none
    | _ => none
  | .call c => match c.callee, c.args.toList, c.argTypes.toList with
    | .builtin .len, [x], [t] => match T t, ev F x with
      | some ⟨.slice _, _, _, _⟩, .slice _ n _ => some (.int .i64 n)
      | some ⟨.string, _, _, _⟩, .string s => some (.int .i64 s.size)
      | _, _ => none
    | _, _, _ => none
  | _ => none

section
variable {P : Program} {T : Nat → Option TI} {n : Nat} {Q : Post} {F : Fm} {w : World} {ops : Array Oper} {rest : List Oper} {o : Oper}
theorem T_u (hT : TabOk P T) {t : Nat} {i : TI} (h : T t = some i) : P.underlying t = some i.desc := (hT.ok t i h).1
theorem T_i (hT : TabOk P T) {t : Nat} {i : TI} (h : T t = some i) : ∃ j, P.info? t = some j ∧ j.zero = some i.zero ∧ j.size = i.size ∧ j.bytes = i.bytes := by
  obtain ⟨j, hj, e⟩ := Option.map_eq_some_iff.1 (hT.ok t i h).2
  simp only [Prod.mk.injEq] at e
  exact ⟨j, hj, e.1, e.2.1, e.2.2⟩
theorem run_und {t : Nat} {d : TypeDesc} (h : P.underlying t = some d) : (underlying t).run P w = .ok d w := run_underlying h w
theorem run_size (hT : TabOk P T) {t : Nat} {i : TI} (h : T t = some i) : (sizeOf t).run P w = .ok i.size w := by
  obtain ⟨j, hj, _, e, _⟩ := T_i hT h
  simp [sizeOf, typeInfo, hj, e]
theorem setAll_foldl : ∀ (vs : List Value) (cs : List Value) (off k : Nat), ((vs.zipIdx k).foldl (fun (a : Array Value) (p : Value × Nat) => a.setIfInBounds (off + p.2) p.1) cs.toArray) = (setAll cs (off + k) vs).toArray
  | [], cs, off, k => by simp [setAll]
  | v :: vs, cs, off, k => by
    simp only [List.zipIdx_cons, List.foldl_cons, setAll]
    have : cs.toArray.setIfInBounds (off + k) v = (cs.set (off + k) v).toArray := by simp
    rw [this, setAll_foldl vs _ off (k + 1)]
    rfl
theorem fill_ok {place : Nat → Option (Nat × Nat)} : ∀ {ps : List (Nat × Operand)} {cs r : List Value}, bld F place ps cs = some r → Instr.fill place cs.toArray (ps.map fun p => (p.1, ev F p.2)) = some r.toArray
  | [], cs, r, h => by
    simp only [bld, opnL_eq, Option.some.injEq] at h
    subst h
    rfl
  | (i, x) :: ps, cs, r, h => by
    unfold bld at h
    split at h
    · cases h
    · rename_i off size hp
      simp only [List.map_cons, Instr.fill, hp]
      split at h
      · rename_i vs hv
        cases hb : (Nat.beq vs.toList.length size && Nat.ble (off + size) cs.length) with
        | false => rw [hb] at h; cases h
        | true =>
          rw [hb] at h
          simp only [Bool.and_eq_true] at hb
          have h1 := Nat.eq_of_beq_eq_true hb.1
          have h2 := Nat.le_of_ble_eq_true hb.2
          have hsz : vs.size = size := by rw [← h1]; simp
          have hcond : ¬ ((decide ((Value.agg vs).cells.size ≠ size) || decide (off + (Value.agg vs).cells.size > cs.toArray.size)) = true) := by simp [Value.cells, hsz]; omega
          rw [hv, if_neg hcond]
          have e : vs.zipIdx.foldl (fun (a : Array Value) (p : Value × Nat) => a.setIfInBounds (off + p.2) p.1) cs.toArray = (setAll cs off vs.toList).toArray := by
            have := setAll_foldl vs.toList cs off 0
            rw [← Array.foldl_toList, Array.toList_zipIdx]
            exact this
          have := fill_ok h
          rw [← this]
          congr 1
      · cases h
      · rename_i v hna hnt
        cases hb : (Nat.beq size 1 && Nat.ble (off + 1) cs.length) with
        | false => rw [hb] at h; cases h
        | true =>
          rw [hb] at h
          simp only [Bool.and_eq_true] at hb
          have h1 := Nat.eq_of_beq_eq_true hb.1
          have h2 := Nat.le_of_ble_eq_true hb.2
          simp only [cond_true, opn_eq] at h
          have hc : (ev F x).cells = #[ev F x] := by
            cases he : ev F x <;> first | rfl | exact (hna _ he).elim
          have hcond : ¬ ((decide ((ev F x).cells.size ≠ size) || decide (off + (ev F x).cells.size > cs.toArray.size)) = true) := by rw [hc]; simp [h1]; omega
          rw [if_neg hcond, hc]
          have := fill_ok h
          rw [← this]
          congr 1
          simp
theorem pure_ok (hT : TabOk P T) {v : Value} (h : pureF T o.op F = some v) : (execOp (ev F) o).run P w = .ok (.value v) w := by
  obtain ⟨dst, op, type, pos, after, guard⟩ := o
  simp only at h
  cases op
  case move x => simp [pureF, opn_eq] at h; subst h; rfl
  case assign x => simp [pureF, opn_eq] at h; subst h; rfl
  case pick c a b =>
    simp only [pureF] at h
    split at h <;> simp [opn_eq] at h
    · rename_i e; subst h; simp [execOp, e, asBool]
    · rename_i e; subst h; simp [execOp, e, asBool]
  case binOp op xt x y yt =>
    simp only [pureF] at h
    split at h
    · rename_i k a k' b ex ey
      cases hk : kEq k k' with
      | false => rw [hk] at h; simp at h
      | true =>
        rw [hk] at h
        have := kEq_eq hk
        subst this
        simp only [cond_true] at h
        simp only [execOp, ex, ey]
        cases op <;> simp only [intOp, Option.some.injEq] at h <;> first | (cases h; done) | (subst h; simp [eqGuard, binOp, Op.intArith, Op.intCmp]; done) | (subst h; simp [eqGuard, binOp, Op.intArith, Op.intCmp]; rfl)
    · rename_i a b ex ey
      simp only [execOp, ex, ey]
      split at h <;> simp at h
      · rename_i hb
        subst h
        have hu := T_u hT hb
        simp [eqGuard, binOp, Op.equal, Op.maxDepth]
        unfold Op.equalIn
        simp [run_und hu]
      · rename_i hb
        subst h
        have hu := T_u hT hb
        simp [eqGuard, binOp, Op.equal, Op.maxDepth]
        unfold Op.equalIn
        simp [run_und hu]
    · simp at h
  case unOp op xt x =>
    cases op <;> simp only [pureF] at h <;> try (simp at h; done)
    · split at h <;> simp at h
      rename_i e
      subst h
      simp [execOp, e, Op.unary, Op.intArith]
    · split at h <;> simp at h
      rename_i e
      subst h
      simp [execOp, e, Op.unary]
  case fieldAddr s x f =>
    simp only [pureF] at h
    split at h <;> try (simp at h; done)
    rename_i e1 e2
    split at h <;> try (simp at h; done)
    rename_i e3
    split at h <;> try (simp at h; done)
    rename_i e4
    simp at h
    subst h
    have hu := T_u hT e1
    have hs := run_size (w := w) hT e4
    simp [execOp, Instr.fieldAt, run_und hu, e3, e2, Instr.sureAddr, fieldPlace, hs, addO_eq]
  case field s x f =>
    simp only [pureF] at h
    split at h <;> try (simp at h; done)
    rename_i e1 e2
    split at h <;> try (simp at h; done)
    rename_i fl e3
    split at h <;> try (simp at h; done)
    rename_i i hn1 hn2 e4
    have hu := T_u hT e1
    have hv := T_u hT e4
    have ha : (isAgg fl.type).run P w = .ok false w := by
      unfold isAgg
      simp only [Sem.run_bind, run_und hv, Result.andThen_ok]
      obtain ⟨d, s, b, z⟩ := i
      cases d <;> first | rfl | exact (hn1 _ _ _ _ rfl).elim | exact (hn2 _ _ _ _ _ rfl).elim
    simp [execOp, Instr.field, run_und hu, e3, e2, asAgg, part, ha, h]
  case nilCheck x =>
    simp only [pureF] at h
    split at h <;> simp at h
    rename_i e
    subst h
    simp [execOp, e]
  case extract x i =>
    simp only [pureF] at h
    split at h <;> first | (cases h; done) | skip
    rename_i e
    simp [execOp, Instr.extract, e, h]
  case build t parts =>
    simp only [pureF] at h
    split at h <;> try (simp at h; done)
    rename_i fs sz by_ z e1
    split at h <;> try (simp at h; done)
    rename_i pl e3
    split at h <;> try (simp at h; done)
    rename_i cs e2
    simp only [Option.some.injEq] at h
    subst h
    have hu := T_u hT e1
    obtain ⟨j, hj, hz, _, _⟩ := T_i hT e1
    have hf := fill_ok e2
    have hpl : ∀ (l : List Field) (pl : List (Nat × Nat)), placesL T l = some pl → l.mapM (fun f => (P.info? f.type).map fun i => (f.offset, i.size)) = some pl := by
      intro l
      induction l with
      | nil => intro pl h; simp [placesL] at h; subst h; simp
      | cons f l ih =>
        intro pl h
        unfold placesL at h
        split at h <;> try (simp at h; done)
        rename_i ti h1
        split at h <;> try (simp at h; done)
        rename_i l' h2
        simp only [Option.some.injEq] at h
        subst h
        obtain ⟨i, hi, _, hs, _⟩ := T_i hT h1
        simp [List.mapM_cons, hi, ih l' h2, hs]
    have hbuilt : P.built t (parts.map fun (i, x) => (i, ev F x)).toList = some cs.toArray := by
      unfold Program.built
      simp only [hj, hu, hz, hpl _ _ e3]
      simp only [Value.cells]
      have : (parts.map fun (i, x) => (i, ev F x)).toList = parts.toList.map fun p => (p.1, ev F p.2) := by simp
      rw [this]
      simpa using hf
    simp [execOp, run_build w t _ _ hbuilt]
  case call c =>
    simp only [pureF] at h
    obtain ⟨callee, args, types⟩ := c
    split at h <;> try (simp at h; done)
    rename_i x t e1 e2 e3
    obtain ⟨args⟩ := args
    obtain ⟨types⟩ := types
    subst e1 e2 e3
    split at h <;> simp at h
    · rename_i e4 e5
      subst h
      have hu := T_u hT e4
      simp [execOp, resolve, invoke, builtin, Builtin.len_, run_und hu, e5, goInt]
    · rename_i e4 e5
      subst h
      have hu := T_u hT e4
      simp [execOp, resolve, invoke, builtin, Builtin.len_, run_und hu, e5, goInt]
  all_goals simp [pureF] at h

/-! ### steps -/
theorem wl_P (hT : TabOk P T) {v : Value} (h : pureF T o.op F = some v) (hg : o.guard = none) {d : Nat} (hd : o.dst = some d) (hn : Nat.blt d n = true) (k : wl P n ops rest Q (upd F d v) w) : wl P n ops (o :: rest) Q F w := wl_val hg hd hn (pure_ok hT h) k

/-- A sum that fits. -/
theorem wrap_in {a : Int} (h1 : -9223372036854775808 ≤ a) (h2 : a ≤ 9223372036854775807) : IntKind.i64.wrap a = a := IntWalk.i64_in a ⟨by omega, by omega⟩
theorem wl_add {x y : Operand} {xt yt : TypeId} {a b : Int} (hop : o.op = .binOp .add xt x y yt) (hx : ev F x = .int .i64 a) (hy : ev F y = .int .i64 b) (hg : o.guard = none) {d : Nat} (hd : o.dst = some d) (hn : Nat.blt d n = true)
    (h1 : -9223372036854775808 ≤ a + b) (h2 : a + b ≤ 9223372036854775807) (k : wl P n ops rest Q (upd F d (.int .i64 (a + b))) w) : wl P n ops (o :: rest) Q F w :=
  wl_val hg hd hn (by simp [execOp, hop, hx, hy, eqGuard, binOp, Op.intArith, wrap_in h1 h2]) k
theorem wl_sub {x y : Operand} {xt yt : TypeId} {a b : Int} (hop : o.op = .binOp .sub xt x y yt) (hx : ev F x = .int .i64 a) (hy : ev F y = .int .i64 b) (hg : o.guard = none) {d : Nat} (hd : o.dst = some d) (hn : Nat.blt d n = true)
    (h1 : -9223372036854775808 ≤ a - b) (h2 : a - b ≤ 9223372036854775807) (k : wl P n ops rest Q (upd F d (.int .i64 (a - b))) w) : wl P n ops (o :: rest) Q F w :=
  wl_val hg hd hn (by simp [execOp, hop, hx, hy, eqGuard, binOp, Op.intArith, wrap_in h1 h2]) k
theorem wl_mul {x y : Operand} {xt yt : TypeId} {a b : Int} (hop : o.op = .binOp .mul xt x y yt) (hx : ev F x = .int .i64 a) (hy : ev F y = .int .i64 b) (hg : o.guard = none) {d : Nat} (hd : o.dst = some d) (hn : Nat.blt d n = true)
    (h1 : -9223372036854775808 ≤ a * b) (h2 : a * b ≤ 9223372036854775807) (k : wl P n ops rest Q (upd F d (.int .i64 (a * b))) w) : wl P n ops (o :: rest) Q F w :=
  wl_val hg hd hn (by simp [execOp, hop, hx, hy, eqGuard, binOp, Op.intArith, wrap_in h1 h2]) k

/-- Those that wrap. -/
theorem wl_addw {x y : Operand} {xt yt : TypeId} {ki : IntKind} {a b : Int} (hop : o.op = .binOp .add xt x y yt) (hx : ev F x = .int ki a) (hy : ev F y = .int ki b) (hg : o.guard = none) {d : Nat} (hd : o.dst = some d) (hn : Nat.blt d n = true)
    (k : wl P n ops rest Q (upd F d (.int ki (ki.wrap (a + b)))) w) : wl P n ops (o :: rest) Q F w :=
  wl_val hg hd hn (by simp [execOp, hop, hx, hy, eqGuard, binOp, Op.intArith]) k
theorem wl_subw {x y : Operand} {xt yt : TypeId} {ki : IntKind} {a b : Int} (hop : o.op = .binOp .sub xt x y yt) (hx : ev F x = .int ki a) (hy : ev F y = .int ki b) (hg : o.guard = none) {d : Nat} (hd : o.dst = some d) (hn : Nat.blt d n = true)
    (k : wl P n ops rest Q (upd F d (.int ki (ki.wrap (a - b)))) w) : wl P n ops (o :: rest) Q F w :=
  wl_val hg hd hn (by simp [execOp, hop, hx, hy, eqGuard, binOp, Op.intArith]) k
theorem wl_mulw {x y : Operand} {xt yt : TypeId} {ki : IntKind} {a b : Int} (hop : o.op = .binOp .mul xt x y yt) (hx : ev F x = .int ki a) (hy : ev F y = .int ki b) (hg : o.guard = none) {d : Nat} (hd : o.dst = some d) (hn : Nat.blt d n = true)
    (k : wl P n ops rest Q (upd F d (.int ki (ki.wrap (a * b)))) w) : wl P n ops (o :: rest) Q F w :=
  wl_val hg hd hn (by simp [execOp, hop, hx, hy, eqGuard, binOp, Op.intArith]) k

/-! ### loads -/
theorem isAgg_no (hT : TabOk P T) {t : Nat} {i : TI} (h : T t = some i) (ha : (match i.desc with | .struct _ | .array _ _ => true | _ => false) = false) : (isAgg t).run P w = .ok false w := by
  have hu := T_u hT h
  unfold isAgg
  simp only [Sem.run_bind, run_und hu, Result.andThen_ok]
  obtain ⟨d, s, b, z⟩ := i
  cases d <;> first | rfl | cases ha
theorem isAgg_yes (hT : TabOk P T) {t : Nat} {i : TI} (h : T t = some i) (ha : (match i.desc with | .struct _ | .array _ _ => true | _ => false) = true) : (isAgg t).run P w = .ok true w := by
  have hu := T_u hT h
  unfold isAgg
  simp only [Sem.run_bind, run_und hu, Result.andThen_ok]
  obtain ⟨d, s, b, z⟩ := i
  cases d <;> first | rfl | cases ha
def oneT (T : Nat → Option TI) (t : Nat) : Bool := match T t with
  | some i => (match i.desc with | .struct _ | .array _ _ => false | _ => true)
  | none => false
theorem oneT_isAgg (hT : TabOk P T) {t : Nat} (h : oneT T t = true) : (isAgg t).run P w = .ok false w := by
  unfold oneT at h
  split at h
  · rename_i i hi
    refine isAgg_no hT hi ?_
    split at h <;> simp_all
  · cases h
theorem run_load_one (hT : TabOk P T) {t : Nat} {a : Addr} {v : Value} (h1 : oneT T t = true) (hc : w.cell? a = some v) : (loadVar t a).run P w = .ok v w := by
  simp only [loadVar, Sem.run_bind, oneT_isAgg hT h1, Result.andThen_ok]
  simp [load, Sem.run, hc]
theorem wl_L (hT : TabOk P T) {t : TypeId} {x : Operand} {a : Addr} {v : Value} (hop : o.op = .load t x) (hx : ev F x = .pointer (some a)) (h1 : oneT T t = true) (hg : o.guard = none) {d : Nat} (hd : o.dst = some d) (hn : Nat.blt d n = true)
    (hc : w.cell? a = some v) (k : wl P n ops rest Q (upd F d v) w) : wl P n ops (o :: rest) Q F w :=
  wl_val hg hd hn (by simp [execOp, hop, hx, Instr.loadAt, Instr.sureAddr, run_load_one hT h1 hc]) k
/-- Out of a block that is known. -/
theorem cell_blk {g off : Nat} {cs : Array Value} {t : TypeId} {fr : Nat × Nat} {v : Value} (h : w.heap[g]? = some (.cells cs t fr)) (hv : cs[off]? = some v) : w.cell? ⟨g, off, none⟩ = some v := by
  simp [World.cell?, h, hv]
theorem wl_Lg (hT : TabOk P T) {t t' : TypeId} {x : Operand} {g off : Nat} {cs : Array Value} {fr : Nat × Nat} {v : Value} (hb : w.heap[g]? = some (.cells cs t' fr)) (hop : o.op = .load t x) (hx : ev F x = .pointer (some ⟨g, off, none⟩)) (h1 : oneT T t = true) (hg : o.guard = none) {d : Nat} (hd : o.dst = some d) (hn : Nat.blt d n = true)
    (hv : cs[off]? = some v) (k : wl P n ops rest Q (upd F d v) w) : wl P n ops (o :: rest) Q F w := wl_L hT hop hx h1 hg hd hn (cell_blk hb hv) k
/-- Out of what was there at the call's begin. -/
theorem wl_Lb (hT : TabOk P T) {w0 : World} (hB : Below w0.heap.size w0 w) {t : TypeId} {x : Operand} {a : Addr} {v : Value} (hop : o.op = .load t x) (hx : ev F x = .pointer (some a)) (h1 : oneT T t = true) (hg : o.guard = none) {d : Nat} (hd : o.dst = some d) (hn : Nat.blt d n = true)
    (hc : w0.cell? a = some v) (k : wl P n ops rest Q (upd F d v) w) : wl P n ops (o :: rest) Q F w := wl_L hT hop hx h1 hg hd hn (cell_up hB hc) k
/-- A struct's cells. -/
def cellsAt (w : World) (a : Addr) : Nat → List Value → Prop
  | _, [] => True
  | i, v :: vs => w.cell? (a.add i) = some v ∧ cellsAt w a (i + 1) vs
theorem run_loadCells {a : Addr} : ∀ (vs : List Value) (i : Nat) (acc : Array Value), cellsAt w a i vs → (loadCellsFrom a i vs.length acc).run P w = .ok (acc ++ vs.toArray) w
  | [], i, acc, _ => by simp [loadCellsFrom]
  | v :: vs, i, acc, ⟨h, hs⟩ => by
    have := run_loadCells vs (i + 1) (acc.push v) hs
    simp only [List.length_cons, loadCellsFrom, Sem.run_bind, load, Sem.run, h, Result.andThen_ok]
    rw [this]
    simp
def aggT (T : Nat → Option TI) (t m : Nat) : Bool := match T t with
  | some i => Nat.beq i.size m && (match i.desc with | .struct _ | .array _ _ => true | _ => false)
  | none => false
theorem aggT_run (hT : TabOk P T) {t m : Nat} (h : aggT T t m = true) : (isAgg t).run P w = .ok true w ∧ (sizeOf t).run P w = .ok m w := by
  unfold aggT at h
  split at h
  · rename_i i hi
    simp only [Bool.and_eq_true] at h
    have := Nat.eq_of_beq_eq_true h.1
    exact ⟨isAgg_yes hT hi h.2, by rw [run_size hT hi, this]⟩
  · cases h
theorem wl_La (hT : TabOk P T) {t : TypeId} {x : Operand} {a : Addr} {vs : List Value} (hc : cellsAt w a 0 vs) (hop : o.op = .load t x) (hx : ev F x = .pointer (some a)) (h1 : aggT T t vs.length = true) (hg : o.guard = none) {d : Nat} (hd : o.dst = some d) (hn : Nat.blt d n = true)
    (k : wl P n ops rest Q (upd F d (.agg vs.toArray)) w) : wl P n ops (o :: rest) Q F w := by
  refine wl_val hg hd hn ?_ k
  have h2 := aggT_run (P := P) (w := w) hT h1
  have h3 := run_loadCells (P := P) vs 0 #[] hc
  simp [execOp, hop, hx, Instr.loadAt, Instr.sureAddr, loadVar, h2, loadCells, h3]
theorem cellsAt_blk {g : Nat} {cs : Array Value} {t : TypeId} {fr : Nat × Nat} (h : w.heap[g]? = some (.cells cs t fr)) : ∀ (vs : List Value) (off i : Nat), (∀ j, j < vs.length → cs[off + i + j]? = vs[j]?) → cellsAt w ⟨g, off, none⟩ i vs
  | [], _, _, _ => trivial
  | v :: vs, off, i, hv => by
    refine ⟨?_, cellsAt_blk h vs off (i + 1) fun j hj => ?_⟩
    · have : (⟨g, off, none⟩ : Addr).add i = ⟨g, off + i, none⟩ := by unfold Addr.add; split <;> simp_all
      rw [this]
      exact cell_blk h (by simpa using hv 0 (by simp))
    · have := hv (j + 1) (by simp; omega)
      simpa [Nat.add_assoc, Nat.add_comm 1 j] using this
theorem wl_Lag (hT : TabOk P T) {t t' : TypeId} {x : Operand} {g : Nat} {cs : List Value} {fr : Nat × Nat} (hb : w.heap[g]? = some (.cells cs.toArray t' fr)) (hop : o.op = .load t x) (hx : ev F x = .pointer (some ⟨g, 0, none⟩)) (h1 : aggT T t cs.length = true) (hg : o.guard = none) {d : Nat} (hd : o.dst = some d) (hn : Nat.blt d n = true)
    (k : wl P n ops rest Q (upd F d (.agg cs.toArray)) w) : wl P n ops (o :: rest) Q F w := wl_La hT (cellsAt_blk hb cs 0 0 (by simp)) hop hx h1 hg hd hn k

/-! ### new blocks -/
structure New (w w1 : World) (g : Nat) (cs : List Value) (t : TypeId) : Prop where
  at_ : g = w.heap.size
  size : w1.heap.size = w.heap.size + 1
  blk : w1.heap[g]? = some (.cells cs.toArray t (0, 0))
  below : Below w.heap.size w w1
theorem new_alloc (w : World) (cs : List Value) (t : TypeId) : New w (w.alloc (.cells cs.toArray t)) w.heap.size cs t := ⟨rfl, by simp, heap_alloc_new w _, (Below.refl _ _).alloc (Nat.le_refl _) _⟩
theorem New.old {w1 : World} {g : Nat} {cs : List Value} {t : TypeId} (h : New w w1 g cs t) {k : Nat} {o : Obj} (hk : w.heap[k]? = some o) : w1.heap[k]? = some o := by
  rw [h.below.block k (Array.getElem?_eq_some_iff.1 hk).1]; exact hk
theorem wl_box {t : TypeId} {x : Operand} {v : Value} {cs : List Value} (hop : o.op = .box t x) (hx : ev F x = v) (hv : v.cells = cs.toArray) (hg : o.guard = none) {d : Nat} (hd : o.dst = some d) (hn : Nat.blt d n = true)
    (k : ∀ g w1, New w w1 g cs t → wl P n ops rest Q (upd F d (.pointer (some ⟨g, 0, none⟩))) w1) : wl P n ops (o :: rest) Q F w :=
  wl_val hg hd hn (by simp [execOp, hop, hx, Instr.box, newVar, newRow, newObj, Sem.run, hv]) (k _ _ (new_alloc w cs t))
theorem wl_alloc (hT : TabOk P T) {t : TypeId} {i : TI} {cs : List Value} (hop : o.op = .alloc t) (hi : T t = some i) (hv : i.zero.cells = cs.toArray) (hg : o.guard = none) {d : Nat} (hd : o.dst = some d) (hn : Nat.blt d n = true)
    (k : ∀ g w1, New w w1 g cs t → wl P n ops rest Q (upd F d (.pointer (some ⟨g, 0, none⟩))) w1) : wl P n ops (o :: rest) Q F w := by
  obtain ⟨j, hj, hz, _, _⟩ := T_i hT hi
  refine wl_val hg hd hn ?_ (k _ _ (new_alloc w cs t))
  simp [execOp, hop, Instr.alloc, zeroValue, typeInfo, hj, hz, newVar, newRow, newObj, Sem.run, hv]

/-! ### stores into a block of one's own -/
structure Put (w w1 : World) (g : Nat) (cs : List Value) (t : TypeId) : Prop where
  size : w1.heap.size = w.heap.size
  blk : w1.heap[g]? = some (.cells cs.toArray t (0, 0))
  grown : w.grownBy w1 (some g)
theorem Put.old {w1 : World} {g : Nat} {cs : List Value} {t : TypeId} (h : Put w w1 g cs t) {k : Nat} {o : Obj} (hk : w.heap[k]? = some o) (hne : k ≠ g) : w1.heap[k]? = some o := by
  rw [h.grown.block k (Array.getElem?_eq_some_iff.1 hk).1 (by simpa using hne)]; exact hk
theorem Put.below {w0 w1 : World} {g B : Nat} {cs : List Value} {t : TypeId} (h : Put w w1 g cs t) (hb : Below B w0 w) (hg : B ≤ g) (hB : B ≤ w.heap.size) : Below B w0 w1 :=
  hb.grown h.grown hB (fun k hk => by cases hk; exact hg)
theorem put_setCell {g off : Nat} {cs : List Value} {t : TypeId} (hb : w.heap[g]? = some (.cells cs.toArray t (0, 0))) (v : Value) : Put w (w.setCell ⟨g, off, none⟩ v) g (cs.set off v) t := by
  refine ⟨by simp [World.setCell], ?_, ⟨rfl, rfl, rfl, by simp [World.setCell], fun k hk hne => Below.heap_setCell w _ v k (by simpa using hne)⟩⟩
  simp [World.setCell, Array.getElem?_modify, hb]
theorem wl_S (hT : TabOk P T) {t t' : TypeId} {x y : Operand} {i : TI} {g off : Nat} {cs : List Value} {v : Value} (hb : w.heap[g]? = some (.cells cs.toArray t' (0, 0))) (hop : o.op = .store t x y) (hx : ev F x = .pointer (some ⟨g, off, none⟩)) (hy : ev F y = v)
    (hi : T t = some i) (h1 : i.size = 1) (hv : v.oneCell' = true) (hoff : off < cs.length) (hg : o.guard = none) (hd : o.dst = none)
    (k : ∀ w1, Put w w1 g (cs.set off v) t' → wl P n ops rest Q F w1) : wl P n ops (o :: rest) Q F w := by
  refine wl_skp hg hd ?_ (k _ (put_setCell hb v))
  have hs := run_size (w := w) hT hi
  rw [h1] at hs
  have hc : w.cell? ⟨g, off, none⟩ = some cs[off] := cell_blk hb (by simp [hoff])
  have hf : w.frozen? ⟨g, off, none⟩ = false := by simp [World.frozen?, hb]
  cases v <;> simp_all [Value.oneCell', execOp, Instr.storeAt, Instr.sureAddr, storeVar, Value.cells, storeCells, store, Sem.run, Addr.add] <;> rfl
end
end Go.Proofs.YtkjbkalakafnlaaDoor
