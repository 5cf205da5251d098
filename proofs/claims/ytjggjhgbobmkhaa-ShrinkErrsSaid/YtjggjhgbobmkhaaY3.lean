/- Several texts of one claim in one file: E1 E2 TF EQ P12. -/
import Derived.Test.YtjggjhgbobmkhaaY2
import Derived.Laws.Tables
import Derived.StillTail
import Derived.Deep.Quiet
import Derived.Test.YtjggjhgbobmkhaaY1
/- Operations, each by one lemma. -/
namespace Go.Proofs.Ytjggjhgbobmkhaa
open Go.RowKit
set_option linter.unusedVariables false
set_option linter.unusedSimpArgs false

/-! ### operations that look at no memory -/
/-- A value laid open. -/
def opn : Value → Option Value
  | .bool b => some (.bool b)
  | .int k n => some (.int k n)
  | .float k b => some (.float k b)
  | .complex k x y => some (.complex k x y)
  | .string s => some (.string s)
  | .pointer a => some (.pointer a)
  | .slice a n c => some (.slice a n c)
  | .map r => some (.map r)
  | .chan r => some (.chan r)
  | .func f a c => some (.func f a c)
  | .nilFunc => some .nilFunc
  | .iface t v => some (.iface t v)
  | .nilIface => some .nilIface
  | .agg cs => some (.agg cs)
  | .tuple vs => some (.tuple vs)
theorem opn_eq (v : Value) : opn v = some v := by cases v <;> rfl
def kEq : IntKind → IntKind → Bool
  | .i8, .i8 | .i16, .i16 | .i32, .i32 | .i64, .i64 | .u8, .u8 | .u16, .u16 | .u32, .u32 | .u64, .u64 => true
  | _, _ => false
theorem kEq_eq {a b : IntKind} (h : kEq a b = true) : a = b := by cases a <;> cases b <;> first | rfl | cases h
def intOp (op : BinOp) (k : IntKind) (a b : Int) : Option Value :=
  match op with
  | .eql => some (.bool (decide (a = b)))
  | .neq => some (.bool (decide (¬ a = b)))
  | .lss => some (.bool (decide (a < b)))
  | .leq => some (.bool (decide (a ≤ b)))
  | .gtr => some (.bool (decide (b < a)))
  | .geq => some (.bool (decide (b ≤ a)))
  | _ => none
def addO (a : Addr) (o : Nat) : Addr := bif Nat.beq o 0 then a else a.add o
theorem addO_eq (a : Addr) (o : Nat) : addO a o = a.add o := by
  unfold addO
  by_cases h : o = 0
  · subst h; rw [nbeq_self]; simp [Addr.add]
  · rw [nbeq_ne h]; rfl
def setAll (cs : List Value) : Nat → List Value → List Value
  | _, [] => cs
  | k, v :: vs => setAll (cs.set k v) (k + 1) vs
/-- A list laid open. -/
def opnL : List Value → Option (List Value)
  | [] => some []
  | v :: l => match opnL l with
    | some l' => some (v :: l')
    | none => none
theorem opnL_eq : ∀ l : List Value, opnL l = some l
  | [] => rfl
  | v :: l => by simp [opnL, opnL_eq l]
/-- Parts laid over cells. -/
def bld (F : Fm) (place : Nat → Option (Nat × Nat)) : List (Nat × Operand) → List Value → Option (List Value)
  | [], cs => opnL cs
  | (i, x) :: ps, cs => match place i with
    | none => none
    | some (off, size) => match ev F x with
      | .agg vs => bif Nat.beq vs.toList.length size && Nat.ble (off + size) cs.length then bld F place ps (setAll cs off vs.toList) else none
      | .tuple _ => none
      | v => bif Nat.beq size 1 && Nat.ble (off + 1) cs.length then (match opn v with | some v => bld F place ps (cs.set off v) | none => none) else none
def placesL (T : Nat → Option TI) : List Field → Option (List (Nat × Nat))
  | [] => some []
  | f :: fs => match T f.type with
    | some ti => match placesL T fs with
      | some l => some ((f.offset, ti.size) :: l)
      | none => none
    | none => none
def pureF (T : Nat → Option TI) (op : Op) (F : Fm) : Option Value :=
  match op with
  | .move x | .assign x => opn (ev F x)
  | .pick c a b => match ev F c with | .bool true => opn (ev F a) | .bool false => opn (ev F b) | _ => none
  | .binOp op xt x y _ => match ev F x, ev F y with
    | .int k a, .int k' b => bif kEq k k' then intOp op k a b else none
    | .bool a, .bool b => match op, T xt with
      | .eql, some ⟨.bool, _, _, _⟩ => some (.bool (a == b))
      | .neq, some ⟨.bool, _, _, _⟩ => some (.bool (!(a == b)))
      | _, _ => none
    | _, _ => none
  | .unOp .not _ x => match ev F x with | .bool b => some (.bool (!b)) | _ => none
  | .unOp .neg _ x => match ev F x with | .int k a => some (.int k (k.wrap (0 - a))) | _ => none
  | .fieldAddr s x f => match T s, ev F x with
    | some ⟨.struct fs, _, _, _⟩, .pointer (some a) => match fs[f]? with
      | some fl => match T fl.type with
        | some ⟨_, (_ + 1), _, _⟩ => some (.pointer (some (addO a fl.offset)))
        | _ => none
      | none => none
    | _, _ => none
  | .field s x f => match T s, ev F x with
    | some ⟨.struct fs, _, _, _⟩, .agg cs => match fs[f]? with
      | some fl => match T fl.type with
        | some ⟨.struct _, _, _, _⟩ => none
        | some ⟨.array _ _, _, _, _⟩ => none
        | some _ => cs[fl.offset]?
        | none => none
      | none => none
    | _, _ => none
  | .nilCheck x => match ev F x with | .pointer (some a) => some (.pointer (some a)) | _ => none
  | .extract x i => match ev F x with | .tuple vs => vs[i]? | _ => none
  | .build t parts => match T t with
    | some ⟨.struct fs, _, _, .agg z⟩ => match placesL T fs.toList with
      | some pl => match bld F (fun i => pl[i]?) parts.toList z.toList with
        | some cs => some (.agg cs.toArray)
        | none => none
      | none => none
    | _ => none
  | .call c => match c.callee, c.args.toList, c.argTypes.toList with
    | .builtin .len, [x], [t] => match T t, ev F x with
      | some ⟨.slice _, _, _, _⟩, .slice _ n _ => some (.int .i64 n)
      | some ⟨.string, _, _, _⟩, .string s => some (.int .i64 s.size)
      | _, _ => none
    | _, _, _ => none
  | _ => none

section
variable {P : Program} {T : Nat → Option TI} {n : Nat} {Q : Post} {F : Fm} {w : World} {ops : Array Oper} {rest : List Oper} {o : Oper}
theorem T_u (hT : TabOk P T) {t : Nat} {i : TI} (h : T t = some i) : P.underlying t = some i.desc := (hT.ok t i h).1
theorem T_i (hT : TabOk P T) {t : Nat} {i : TI} (h : T t = some i) : ∃ j, P.info? t = some j ∧ j.zero = some i.zero ∧ j.size = i.size ∧ j.bytes = i.bytes := by
  obtain ⟨j, hj, e⟩ := Option.map_eq_some_iff.1 (hT.ok t i h).2
  simp only [Prod.mk.injEq] at e
  exact ⟨j, hj, e.1, e.2.1, e.2.2⟩
theorem run_und {t : Nat} {d : TypeDesc} (h : P.underlying t = some d) : (underlying t).run P w = .ok d w := run_underlying h w
theorem run_size (hT : TabOk P T) {t : Nat} {i : TI} (h : T t = some i) : (sizeOf t).run P w = .ok i.size w := by
  obtain ⟨j, hj, _, e, _⟩ := T_i hT h
  simp [sizeOf, typeInfo, hj, e]
theorem setAll_foldl : ∀ (vs : List Value) (cs : List Value) (off k : Nat), ((vs.zipIdx k).foldl (fun (a : Array Value) (p : Value × Nat) => a.setIfInBounds (off + p.2) p.1) cs.toArray) = (setAll cs (off + k) vs).toArray
  | [], cs, off, k => by simp [setAll]
  | v :: vs, cs, off, k => by
    simp only [List.zipIdx_cons, List.foldl_cons, setAll]
    have : cs.toArray.setIfInBounds (off + k) v = (cs.set (off + k) v).toArray := by simp
    rw [this, setAll_foldl vs _ off (k + 1)]
    rfl
theorem fill_ok {place : Nat → Option (Nat × Nat)} : ∀ {ps : List (Nat × Operand)} {cs r : List Value}, bld F place ps cs = some r → Instr.fill place cs.toArray (ps.map fun p => (p.1, ev F p.2)) = some r.toArray
  | [], cs, r, h => by
    simp only [bld, opnL_eq, Option.some.injEq] at h
    subst h
    rfl
  | (i, x) :: ps, cs, r, h => by
    unfold bld at h
    split at h
    · cases h
    · rename_i off size hp
      simp only [List.map_cons, Instr.fill, hp]
      split at h
      · rename_i vs hv
        cases hb : (Nat.beq vs.toList.length size && Nat.ble (off + size) cs.length) with
        | false => rw [hb] at h; cases h
        | true =>
          rw [hb] at h
          simp only [Bool.and_eq_true] at hb
          have h1 := Nat.eq_of_beq_eq_true hb.1
          have h2 := Nat.le_of_ble_eq_true hb.2
          have hsz : vs.size = size := by rw [← h1]; simp
          have hcond : ¬ ((decide ((Value.agg vs).cells.size ≠ size) || decide (off + (Value.agg vs).cells.size > cs.toArray.size)) = true) := by simp [Value.cells, hsz]; omega
          rw [hv, if_neg hcond]
          have e : vs.zipIdx.foldl (fun (a : Array Value) (p : Value × Nat) => a.setIfInBounds (off + p.2) p.1) cs.toArray = (setAll cs off vs.toList).toArray := by
            have := setAll_foldl vs.toList cs off 0
            rw [← Array.foldl_toList, Array.toList_zipIdx]
            exact this
          have := fill_ok h
          rw [← this]
          congr 1
      · cases h
      · rename_i v hna hnt
        cases hb : (Nat.beq size 1 && Nat.ble (off + 1) cs.length) with
        | false => rw [hb] at h; cases h
        | true =>
          rw [hb] at h
          simp only [Bool.and_eq_true] at hb
          have h1 := Nat.eq_of_beq_eq_true hb.1
          have h2 := Nat.le_of_ble_eq_true hb.2
          simp only [cond_true, opn_eq] at h
          have hc : (ev F x).cells = #[ev F x] := by
            cases he : ev F x <;> first | rfl | exact (hna _ he).elim
          have hcond : ¬ ((decide ((ev F x).cells.size ≠ size) || decide (off + (ev F x).cells.size > cs.toArray.size)) = true) := by rw [hc]; simp [h1]; omega
          rw [if_neg hcond, hc]
          have := fill_ok h
          rw [← this]
          congr 1
          simp
theorem pure_ok (hT : TabOk P T) {v : Value} (h : pureF T o.op F = some v) : (execOp (ev F) o).run P w = .ok (.value v) w := by
  obtain ⟨dst, op, type, pos, after, guard⟩ := o
  simp only at h
  cases op
  case move x => simp [pureF, opn_eq] at h; subst h; rfl
  case assign x => simp [pureF, opn_eq] at h; subst h; rfl
  case pick c a b =>
    simp only [pureF] at h
    split at h <;> simp [opn_eq] at h
    · rename_i e; subst h; simp [execOp, e, asBool]
    · rename_i e; subst h; simp [execOp, e, asBool]
  case binOp op xt x y yt =>
    simp only [pureF] at h
    split at h
    · rename_i k a k' b ex ey
      cases hk : kEq k k' with
      | false => rw [hk] at h; simp at h
      | true =>
        rw [hk] at h
        have := kEq_eq hk
        subst this
        simp only [cond_true] at h
        simp only [execOp, ex, ey]
        cases op <;> simp only [intOp, Option.some.injEq] at h <;> first | (cases h; done) | (subst h; simp [eqGuard, binOp, Op.intArith, Op.intCmp]; done) | (subst h; simp [eqGuard, binOp, Op.intArith, Op.intCmp]; rfl)
    · rename_i a b ex ey
      simp only [execOp, ex, ey]
      split at h <;> simp at h
      · rename_i hb
        subst h
        have hu := T_u hT hb
        simp [eqGuard, binOp, Op.equal, Op.maxDepth]
        unfold Op.equalIn
        simp [run_und hu]
      · rename_i hb
        subst h
        have hu := T_u hT hb
        simp [eqGuard, binOp, Op.equal, Op.maxDepth]
        unfold Op.equalIn
        simp [run_und hu]
    · simp at h
  case unOp op xt x =>
    cases op <;> simp only [pureF] at h <;> try (simp at h; done)
    · split at h <;> simp at h
      rename_i e
      subst h
      simp [execOp, e, Op.unary, Op.intArith]
    · split at h <;> simp at h
      rename_i e
      subst h
      simp [execOp, e, Op.unary]
  case fieldAddr s x f =>
    simp only [pureF] at h
    split at h <;> try (simp at h; done)
    rename_i e1 e2
    split at h <;> try (simp at h; done)
    rename_i e3
    split at h <;> try (simp at h; done)
    rename_i e4
    simp at h
    subst h
    have hu := T_u hT e1
    have hs := run_size (w := w) hT e4
    simp [execOp, Instr.fieldAt, run_und hu, e3, e2, Instr.sureAddr, fieldPlace, hs, addO_eq]
  case field s x f =>
    simp only [pureF] at h
    split at h <;> try (simp at h; done)
    rename_i e1 e2
    split at h <;> try (simp at h; done)
    rename_i fl e3
    split at h <;> try (simp at h; done)
    rename_i i hn1 hn2 e4
    have hu := T_u hT e1
    have hv := T_u hT e4
    have ha : (isAgg fl.type).run P w = .ok false w := by
      unfold isAgg
      simp only [Sem.run_bind, run_und hv, Result.andThen_ok]
      obtain ⟨d, s, b, z⟩ := i
      cases d <;> first | rfl | exact (hn1 _ _ _ _ rfl).elim | exact (hn2 _ _ _ _ _ rfl).elim
    simp [execOp, Instr.field, run_und hu, e3, e2, asAgg, part, ha, h]
  case nilCheck x =>
    simp only [pureF] at h
    split at h <;> simp at h
    rename_i e
    subst h
    simp [execOp, e]
  case extract x i =>
    simp only [pureF] at h
    split at h <;> first | (cases h; done) | skip
    rename_i e
    simp [execOp, Instr.extract, e, h]
  case build t parts =>
    simp only [pureF] at h
    split at h <;> try (simp at h; done)
    rename_i fs sz by_ z e1
    split at h <;> try (simp at h; done)
    rename_i pl e3
    split at h <;> try (simp at h; done)
    rename_i cs e2
    simp only [Option.some.injEq] at h
    subst h
    have hu := T_u hT e1
    obtain ⟨j, hj, hz, _, _⟩ := T_i hT e1
    have hf := fill_ok e2
    have hpl : ∀ (l : List Field) (pl : List (Nat × Nat)), placesL T l = some pl → l.mapM (fun f => (P.info? f.type).map fun i => (f.offset, i.size)) = some pl := by
      intro l
      induction l with
      | nil => intro pl h; simp [placesL] at h; subst h; simp
      | cons f l ih =>
        intro pl h
        unfold placesL at h
        split at h <;> try (simp at h; done)
        rename_i ti h1
        split at h <;> try (simp at h; done)
        rename_i l' h2
        simp only [Option.some.injEq] at h
        subst h
        obtain ⟨i, hi, _, hs, _⟩ := T_i hT h1
        simp [List.mapM_cons, hi, ih l' h2, hs]
    have hbuilt : P.built t (parts.map fun (i, x) => (i, ev F x)).toList = some cs.toArray := by
      unfold Program.built
      simp only [hj, hu, hz, hpl _ _ e3]
      simp only [Value.cells]
      have : (parts.map fun (i, x) => (i, ev F x)).toList = parts.toList.map fun p => (p.1, ev F p.2) := by simp
      rw [this]
      simpa using hf
    simp [execOp, run_build w t _ _ hbuilt]
  case call c =>
    simp only [pureF] at h
    obtain ⟨callee, args, types⟩ := c
    split at h <;> try (simp at h; done)
    rename_i x t e1 e2 e3
    obtain ⟨args⟩ := args
    obtain ⟨types⟩ := types
    subst e1 e2 e3
    split at h <;> simp at h
    · rename_i e4 e5
      subst h
      have hu := T_u hT e4
      simp [execOp, resolve, invoke, builtin, Builtin.len_, run_und hu, e5, goInt]
    · rename_i e4 e5
      subst h
      have hu := T_u hT e4
      simp [execOp, resolve, invoke, builtin, Builtin.len_, run_und hu, e5, goInt]
  all_goals simp [pureF] at h

/-! ### steps -/
theorem wl_P (hT : TabOk P T) {v : Value} (h : pureF T o.op F = some v) (hg : o.guard = none) {d : Nat} (hd : o.dst = some d) (hn : Nat.blt d n = true) (k : wl P n ops rest Q (upd F d v) w) : wl P n ops (o :: rest) Q F w := wl_val hg hd hn (pure_ok hT h) k

/-- A sum that fits. -/
theorem wrap_in {a : Int} (h1 : -9223372036854775808 ≤ a) (h2 : a ≤ 9223372036854775807) : IntKind.i64.wrap a = a := IntWalk.i64_in a ⟨by omega, by omega⟩
theorem wl_add {x y : Operand} {xt yt : TypeId} {a b : Int} (hop : o.op = .binOp .add xt x y yt) (hx : ev F x = .int .i64 a) (hy : ev F y = .int .i64 b) (hg : o.guard = none) {d : Nat} (hd : o.dst = some d) (hn : Nat.blt d n = true)
    (h1 : -9223372036854775808 ≤ a + b) (h2 : a + b ≤ 9223372036854775807) (k : wl P n ops rest Q (upd F d (.int .i64 (a + b))) w) : wl P n ops (o :: rest) Q F w :=
  wl_val hg hd hn (by simp [execOp, hop, hx, hy, eqGuard, binOp, Op.intArith, wrap_in h1 h2]) k
theorem wl_sub {x y : Operand} {xt yt : TypeId} {a b : Int} (hop : o.op = .binOp .sub xt x y yt) (hx : ev F x = .int .i64 a) (hy : ev F y = .int .i64 b) (hg : o.guard = none) {d : Nat} (hd : o.dst = some d) (hn : Nat.blt d n = true)
    (h1 : -9223372036854775808 ≤ a - b) (h2 : a - b ≤ 9223372036854775807) (k : wl P n ops rest Q (upd F d (.int .i64 (a - b))) w) : wl P n ops (o :: rest) Q F w :=
  wl_val hg hd hn (by simp [execOp, hop, hx, hy, eqGuard, binOp, Op.intArith, wrap_in h1 h2]) k
theorem wl_mul {x y : Operand} {xt yt : TypeId} {a b : Int} (hop : o.op = .binOp .mul xt x y yt) (hx : ev F x = .int .i64 a) (hy : ev F y = .int .i64 b) (hg : o.guard = none) {d : Nat} (hd : o.dst = some d) (hn : Nat.blt d n = true)
    (h1 : -9223372036854775808 ≤ a * b) (h2 : a * b ≤ 9223372036854775807) (k : wl P n ops rest Q (upd F d (.int .i64 (a * b))) w) : wl P n ops (o :: rest) Q F w :=
  wl_val hg hd hn (by simp [execOp, hop, hx, hy, eqGuard, binOp, Op.intArith, wrap_in h1 h2]) k

/-- Those that wrap. -/
theorem wl_addw {x y : Operand} {xt yt : TypeId} {ki : IntKind} {a b : Int} (hop : o.op = .binOp .add xt x y yt) (hx : ev F x = .int ki a) (hy : ev F y = .int ki b) (hg : o.guard = none) {d : Nat} (hd : o.dst = some d) (hn : Nat.blt d n = true)
    (k : wl P n ops rest Q (upd F d (.int ki (ki.wrap (a + b)))) w) : wl P n ops (o :: rest) Q F w :=
  wl_val hg hd hn (by simp [execOp, hop, hx, hy, eqGuard, binOp, Op.intArith]) k
/-! ### loads -/
theorem isAgg_no (hT : TabOk P T) {t : Nat} {i : TI} (h : T t = some i) (ha : (match i.desc with | .struct _ | .array _ _ => true | _ => false) = false) : (isAgg t).run P w = .ok false w := by
  have hu := T_u hT h
  unfold isAgg
  simp only [Sem.run_bind, run_und hu, Result.andThen_ok]
  obtain ⟨d, s, b, z⟩ := i
  cases d <;> first | rfl | cases ha
theorem isAgg_yes (hT : TabOk P T) {t : Nat} {i : TI} (h : T t = some i) (ha : (match i.desc with | .struct _ | .array _ _ => true | _ => false) = true) : (isAgg t).run P w = .ok true w := by
  have hu := T_u hT h
  unfold isAgg
  simp only [Sem.run_bind, run_und hu, Result.andThen_ok]
  obtain ⟨d, s, b, z⟩ := i
  cases d <;> first | rfl | cases ha
def oneT (T : Nat → Option TI) (t : Nat) : Bool := match T t with
  | some i => (match i.desc with | .struct _ | .array _ _ => false | _ => true)
  | none => false
theorem oneT_isAgg (hT : TabOk P T) {t : Nat} (h : oneT T t = true) : (isAgg t).run P w = .ok false w := by
  unfold oneT at h
  split at h
  · rename_i i hi
    refine isAgg_no hT hi ?_
    split at h <;> simp_all
  · cases h
theorem run_load_one (hT : TabOk P T) {t : Nat} {a : Addr} {v : Value} (h1 : oneT T t = true) (hc : w.cell? a = some v) : (loadVar t a).run P w = .ok v w := by
  simp only [loadVar, Sem.run_bind, oneT_isAgg hT h1, Result.andThen_ok]
  simp [load, Sem.run, hc]
theorem wl_L (hT : TabOk P T) {t : TypeId} {x : Operand} {a : Addr} {v : Value} (hop : o.op = .load t x) (hx : ev F x = .pointer (some a)) (h1 : oneT T t = true) (hg : o.guard = none) {d : Nat} (hd : o.dst = some d) (hn : Nat.blt d n = true)
    (hc : w.cell? a = some v) (k : wl P n ops rest Q (upd F d v) w) : wl P n ops (o :: rest) Q F w :=
  wl_val hg hd hn (by simp [execOp, hop, hx, Instr.loadAt, Instr.sureAddr, run_load_one hT h1 hc]) k
/-- Out of a block that is known. -/
theorem cell_blk {g off : Nat} {cs : Array Value} {t : TypeId} {fr : Nat × Nat} {v : Value} (h : w.heap[g]? = some (.cells cs t fr)) (hv : cs[off]? = some v) : w.cell? ⟨g, off, none⟩ = some v := by
  simp [World.cell?, h, hv]
theorem wl_Lg (hT : TabOk P T) {t t' : TypeId} {x : Operand} {g off : Nat} {cs : Array Value} {fr : Nat × Nat} {v : Value} (hb : w.heap[g]? = some (.cells cs t' fr)) (hop : o.op = .load t x) (hx : ev F x = .pointer (some ⟨g, off, none⟩)) (h1 : oneT T t = true) (hg : o.guard = none) {d : Nat} (hd : o.dst = some d) (hn : Nat.blt d n = true)
    (hv : cs[off]? = some v) (k : wl P n ops rest Q (upd F d v) w) : wl P n ops (o :: rest) Q F w := wl_L hT hop hx h1 hg hd hn (cell_blk hb hv) k
/-- A struct's cells. -/
def cellsAt (w : World) (a : Addr) : Nat → List Value → Prop
  | _, [] => True
  | i, v :: vs => w.cell? (a.add i) = some v ∧ cellsAt w a (i + 1) vs
theorem run_loadCells {a : Addr} : ∀ (vs : List Value) (i : Nat) (acc : Array Value), cellsAt w a i vs → (loadCellsFrom a i vs.length acc).run P w = .ok (acc ++ vs.toArray) w
  | [], i, acc, _ => by simp [loadCellsFrom]
  | v :: vs, i, acc, ⟨h, hs⟩ => by
    have := run_loadCells vs (i + 1) (acc.push v) hs
    simp only [List.length_cons, loadCellsFrom, Sem.run_bind, load, Sem.run, h, Result.andThen_ok]
    rw [this]
    simp
def aggT (T : Nat → Option TI) (t m : Nat) : Bool := match T t with
  | some i => Nat.beq i.size m && (match i.desc with | .struct _ | .array _ _ => true | _ => false)
  | none => false
theorem aggT_run (hT : TabOk P T) {t m : Nat} (h : aggT T t m = true) : (isAgg t).run P w = .ok true w ∧ (sizeOf t).run P w = .ok m w := by
  unfold aggT at h
  split at h
  · rename_i i hi
    simp only [Bool.and_eq_true] at h
    have := Nat.eq_of_beq_eq_true h.1
    exact ⟨isAgg_yes hT hi h.2, by rw [run_size hT hi, this]⟩
  · cases h
theorem wl_La (hT : TabOk P T) {t : TypeId} {x : Operand} {a : Addr} {vs : List Value} (hc : cellsAt w a 0 vs) (hop : o.op = .load t x) (hx : ev F x = .pointer (some a)) (h1 : aggT T t vs.length = true) (hg : o.guard = none) {d : Nat} (hd : o.dst = some d) (hn : Nat.blt d n = true)
    (k : wl P n ops rest Q (upd F d (.agg vs.toArray)) w) : wl P n ops (o :: rest) Q F w := by
  refine wl_val hg hd hn ?_ k
  have h2 := aggT_run (P := P) (w := w) hT h1
  have h3 := run_loadCells (P := P) vs 0 #[] hc
  simp [execOp, hop, hx, Instr.loadAt, Instr.sureAddr, loadVar, h2, loadCells, h3]
theorem cellsAt_blk {g : Nat} {cs : Array Value} {t : TypeId} {fr : Nat × Nat} (h : w.heap[g]? = some (.cells cs t fr)) : ∀ (vs : List Value) (off i : Nat), (∀ j, j < vs.length → cs[off + i + j]? = vs[j]?) → cellsAt w ⟨g, off, none⟩ i vs
  | [], _, _, _ => trivial
  | v :: vs, off, i, hv => by
    refine ⟨?_, cellsAt_blk h vs off (i + 1) fun j hj => ?_⟩
    · have : (⟨g, off, none⟩ : Addr).add i = ⟨g, off + i, none⟩ := by unfold Addr.add; split <;> simp_all
      rw [this]
      exact cell_blk h (by simpa using hv 0 (by simp))
    · have := hv (j + 1) (by simp; omega)
      simpa [Nat.add_assoc, Nat.add_comm 1 j] using this
theorem wl_Lag (hT : TabOk P T) {t t' : TypeId} {x : Operand} {g : Nat} {cs : List Value} {fr : Nat × Nat} (hb : w.heap[g]? = some (.cells cs.toArray t' fr)) (hop : o.op = .load t x) (hx : ev F x = .pointer (some ⟨g, 0, none⟩)) (h1 : aggT T t cs.length = true) (hg : o.guard = none) {d : Nat} (hd : o.dst = some d) (hn : Nat.blt d n = true)
    (k : wl P n ops rest Q (upd F d (.agg cs.toArray)) w) : wl P n ops (o :: rest) Q F w := wl_La hT (cellsAt_blk hb cs 0 0 (by simp)) hop hx h1 hg hd hn k

/-! ### new blocks -/
structure New (w w1 : World) (g : Nat) (cs : List Value) (t : TypeId) : Prop where
  at_ : g = w.heap.size
  size : w1.heap.size = w.heap.size + 1
  blk : w1.heap[g]? = some (.cells cs.toArray t (0, 0))
  below : Below w.heap.size w w1
theorem new_alloc (w : World) (cs : List Value) (t : TypeId) : New w (w.alloc (.cells cs.toArray t)) w.heap.size cs t := ⟨rfl, by simp, heap_alloc_new w _, (Below.refl _ _).alloc (Nat.le_refl _) _⟩
theorem New.old {w1 : World} {g : Nat} {cs : List Value} {t : TypeId} (h : New w w1 g cs t) {k : Nat} {o : Obj} (hk : w.heap[k]? = some o) : w1.heap[k]? = some o := by
  rw [h.below.block k (Array.getElem?_eq_some_iff.1 hk).1]; exact hk
theorem wl_box {t : TypeId} {x : Operand} {v : Value} {cs : List Value} (hop : o.op = .box t x) (hx : ev F x = v) (hv : v.cells = cs.toArray) (hg : o.guard = none) {d : Nat} (hd : o.dst = some d) (hn : Nat.blt d n = true)
    (k : ∀ g w1, New w w1 g cs t → wl P n ops rest Q (upd F d (.pointer (some ⟨g, 0, none⟩))) w1) : wl P n ops (o :: rest) Q F w :=
  wl_val hg hd hn (by simp [execOp, hop, hx, Instr.box, newVar, newRow, newObj, Sem.run, hv]) (k _ _ (new_alloc w cs t))
theorem wl_alloc (hT : TabOk P T) {t : TypeId} {i : TI} {cs : List Value} (hop : o.op = .alloc t) (hi : T t = some i) (hv : i.zero.cells = cs.toArray) (hg : o.guard = none) {d : Nat} (hd : o.dst = some d) (hn : Nat.blt d n = true)
    (k : ∀ g w1, New w w1 g cs t → wl P n ops rest Q (upd F d (.pointer (some ⟨g, 0, none⟩))) w1) : wl P n ops (o :: rest) Q F w := by
  obtain ⟨j, hj, hz, _, _⟩ := T_i hT hi
  refine wl_val hg hd hn ?_ (k _ _ (new_alloc w cs t))
  simp [execOp, hop, Instr.alloc, zeroValue, typeInfo, hj, hz, newVar, newRow, newObj, Sem.run, hv]

/-! ### stores into a block of one's own -/
structure Put (w w1 : World) (g : Nat) (cs : List Value) (t : TypeId) : Prop where
  size : w1.heap.size = w.heap.size
  blk : w1.heap[g]? = some (.cells cs.toArray t (0, 0))
  grown : w.grownBy w1 (some g)
theorem Put.old {w1 : World} {g : Nat} {cs : List Value} {t : TypeId} (h : Put w w1 g cs t) {k : Nat} {o : Obj} (hk : w.heap[k]? = some o) (hne : k ≠ g) : w1.heap[k]? = some o := by
  rw [h.grown.block k (Array.getElem?_eq_some_iff.1 hk).1 (by simpa using hne)]; exact hk
theorem Put.below {w0 w1 : World} {g B : Nat} {cs : List Value} {t : TypeId} (h : Put w w1 g cs t) (hb : Below B w0 w) (hg : B ≤ g) (hB : B ≤ w.heap.size) : Below B w0 w1 :=
  hb.grown h.grown hB (fun k hk => by cases hk; exact hg)
theorem put_setCell {g off : Nat} {cs : List Value} {t : TypeId} (hb : w.heap[g]? = some (.cells cs.toArray t (0, 0))) (v : Value) : Put w (w.setCell ⟨g, off, none⟩ v) g (cs.set off v) t := by
  refine ⟨by simp [World.setCell], ?_, ⟨rfl, rfl, rfl, by simp [World.setCell], fun k hk hne => Below.heap_setCell w _ v k (by simpa using hne)⟩⟩
  simp [World.setCell, Array.getElem?_modify, hb]
theorem wl_S (hT : TabOk P T) {t t' : TypeId} {x y : Operand} {i : TI} {g off : Nat} {cs : List Value} {v : Value} (hb : w.heap[g]? = some (.cells cs.toArray t' (0, 0))) (hop : o.op = .store t x y) (hx : ev F x = .pointer (some ⟨g, off, none⟩)) (hy : ev F y = v)
    (hi : T t = some i) (h1 : i.size = 1) (hv : v.oneCell' = true) (hoff : off < cs.length) (hg : o.guard = none) (hd : o.dst = none)
    (k : ∀ w1, Put w w1 g (cs.set off v) t' → wl P n ops rest Q F w1) : wl P n ops (o :: rest) Q F w := by
  refine wl_skp hg hd ?_ (k _ (put_setCell hb v))
  have hs := run_size (w := w) hT hi
  rw [h1] at hs
  have hc : w.cell? ⟨g, off, none⟩ = some cs[off] := cell_blk hb (by simp [hoff])
  have hf : w.frozen? ⟨g, off, none⟩ = false := by simp [World.frozen?, hb]
  cases v <;> simp_all [Value.oneCell', execOp, Instr.storeAt, Instr.sureAddr, storeVar, Value.cells, storeCells, store, Sem.run, Addr.add] <;> rfl
end
end Go.Proofs.Ytjggjhgbobmkhaa

/- Guards told apart, indexes, calls, make, literals, append, whole structs stored. -/
namespace Go.Proofs.Ytjggjhgbobmkhaa
open Go.RowKit
set_option linter.unusedVariables false
set_option linter.unusedSimpArgs false
section
variable {P : Program} {T : Nat → Option TI} {n : Nat} {Q : Post} {F : Fm} {w : World} {ops : Array Oper} {rest : List Oper} {o : Oper}

/-! ### guards -/
/-- Where a piece of code has come to, by what stands behind it: heads of their own, so that no step tries to look through them. -/
def PN (Q : Post) (F : Fm) (w : World) : Prop := Q.n F w
def PX (Q : Post) (i : Nat) (F : Fm) (w : World) : Prop := Q.x i F w
def RetW (Q : Post) (F : Fm) (w : World) : Prop := Q.r F w
/-! ### an element's place -/
def sliceT (T : Nat → Option TI) (t e s : Nat) : Bool := match T t, T e with
  | some ⟨.slice e', _, _, _⟩, some i => Nat.beq e' e && Nat.beq i.size s
  | _, _ => false
theorem sliceT_ok (hT : TabOk P T) {t e s : Nat} (h : sliceT T t e s = true) : P.underlying t = some (.slice e) ∧ (sizeOf e).run P w = .ok s w := by
  unfold sliceT at h
  split at h
  · rename_i e1 e2
    simp only [Bool.and_eq_true] at h
    have h1 := Nat.eq_of_beq_eq_true h.1
    have h2 := Nat.eq_of_beq_eq_true h.2
    subst h1 h2
    exact ⟨T_u hT e1, run_size hT e2⟩
  · cases h
/-- e: the element's type, s: how many cells it has. -/
theorem wl_X (hT : TabOk P T) (e s : Nat) {t : TypeId} {x ix : Operand} {a : Addr} {len cap : Nat} {ki : IntKind} {i : Int} (hop : o.op = .indexAddr t x ix) (hx : ev F x = .slice (some a) len cap) (hi : ev F ix = .int ki i) (h1 : sliceT T t e s = true) (hg : o.guard = none) {d : Nat} (hd : o.dst = some d) (hn : Nat.blt d n = true)
    (h0 : 0 ≤ i) (hl : i < len) (k : wl P n ops rest Q (upd F d (.pointer (some (a.add (i.toNat * s))))) w) : wl P n ops (o :: rest) Q F w := by
  refine wl_val hg hd hn ?_ k
  obtain ⟨hu, hs⟩ := sliceT_ok (w := w) hT h1
  simp [execOp, hop, hx, hi, Instr.indexAt, asIntOf, run_und hu, hs, h0, hl]
theorem wl_Xn (hT : TabOk P T) (e s : Nat) {t : TypeId} {x ix : Operand} {a : Addr} {len cap : Nat} {ki : IntKind} {i : Nat} (hop : o.op = .indexAddr t x ix) (hx : ev F x = .slice (some a) len cap) (hi : ev F ix = .int ki i) (h1 : sliceT T t e s = true) (hg : o.guard = none) {d : Nat} (hd : o.dst = some d) (hn : Nat.blt d n = true)
    (hl : i < len) (k : wl P n ops rest Q (upd F d (.pointer (some (a.add (i * s))))) w) : wl P n ops (o :: rest) Q F w :=
  wl_X hT e s hop hx hi h1 hg hd hn (by omega) (by omega) (by simpa using k)

/-! ### calls -/
structure FnOk (P : Program) (f : FuncId) : Prop where
  ok : ∃ fn, P.funcs[f]? = some fn ∧ (fn.name == "runtime.NumGoroutine") = false ∧ fn.body.isNone = false
theorem run_callFunc {f : FuncId} (h : FnOk P f) (args : Array Value) : (callFunc f args).run P w = .ok (.enter f args) w := by
  obtain ⟨fn, h1, h2, h3⟩ := h.ok
  have h2' : ¬ fn.name = "runtime.NumGoroutine" := by simpa using h2
  have h3' : ¬ fn.body = none := by intro e; rw [e] at h3; cases h3
  simp [callFunc, h1, h2', h3']
theorem wl_C {f : FuncId} {c : Call} {x : Operand} {args : List Value} {R : Ending → World → Prop} (hf : FnOk P f) (hc : Calls P f args.toArray w R) (hop : o.op = .call c) (hcal : c.callee = .value x) (hx : ev F x = .func (.func f) #[] #[]) (hargs : c.args.toList.map (ev F) = args) (hg : o.guard = none) {d : Nat} (hd : o.dst = some d) (hn : Nat.blt d n = true)
    (k : ∀ e w1, R e w1 → ∃ v, e = .returned v ∧ wl P n ops rest Q (upd F d v) w1) : wl P n ops (o :: rest) Q F w := by
  refine wl_ent hg hd hn ?_ hc k
  have : c.args.map (ev F) = args.toArray := Array.toList_inj.1 (by rw [Array.toList_map, hargs])
  simp [execOp, hop, resolve, hcal, hx, Deferred.ofValue, this, invoke, run_callFunc hf]

/-! ### a row written out -/
theorem zeros_eq (z : List Value) : ∀ len : Nat, (List.range (len * z.length)).map (fun i => z[i % z.length]!) = (List.replicate len z).flatten
  | 0 => by simp
  | len + 1 => by
    rw [Nat.succ_mul, Nat.add_comm, List.range_add, List.map_append, List.map_map, List.replicate_succ, List.flatten_cons, ← zeros_eq z len]
    congr 1
    · apply List.ext_getElem
      · simp
      · intro i h1 h2
        simp only [List.length_map, List.length_range] at h1
        simp [Nat.mod_eq_of_lt h1, h1]
    · apply List.map_congr_left
      intro i _
      simp
theorem bs_run (hT : TabOk P T) (e s : Nat) {t : TypeId} {len : Nat} {parts : Array (Nat × Operand)} {i : TI} {z cs : List Value} (hop : o.op = .buildSlice t len parts) (h1 : sliceT T t e s = true) (hi : T e = some i) (hz : i.zero.cells = z.toArray) (hzl : Nat.beq z.length s = true) (hlen : Nat.ble (len * s) 16777216 = true)
    (hc : bld F (fun i => some (i * s, s)) parts.toList (List.replicate len z).flatten = some cs) : (execOp (ev F) o).run P w = .ok (.value (.slice (some ⟨w.heap.size, 0, none⟩) len len)) (w.alloc (.cells cs.toArray e)) := by
  obtain ⟨hu, hs⟩ := sliceT_ok (w := w) hT h1
  obtain ⟨j, hj, hjz, _, _⟩ := T_i hT hi
  have hl := Nat.le_of_ble_eq_true hlen
  have hzl' := Nat.eq_of_beq_eq_true hzl
  have hf := fill_ok hc
  have hparts : (parts.map fun (i, x) => (i, ev F x)).toList = parts.toList.map fun p => (p.1, ev F p.2) := by simp
  have hstart : ∀ zz : Array Value, zz = z.toArray → ((Array.range (len * s)).map (fun x => zz[x % zz.size]!)) = ((List.replicate len z).flatten).toArray := by
    rintro zz rfl
    rw [← zeros_eq z len, hzl']
    apply Array.ext'
    simp [hzl']
  simp only [execOp, hop, Instr.buildSlice, Sem.run_bind, run_und hu, hs, Result.andThen_ok]
  rw [if_neg (by omega)]
  by_cases h0 : len * s = 0
  · have hst : ((Array.range (len * s)).map (fun x => (#[] : Array Value)[x % (#[] : Array Value).size]!)) = ((List.replicate len z).flatten).toArray := by
      rw [← zeros_eq z len, hzl', h0]; simp
    rw [if_pos h0]
    simp only [Sem.run_bind, Sem.run_pure, Result.andThen_ok]
    rw [hst, hparts, hf]
    simp [newRow, newObj, Sem.run]
  · rw [if_neg h0]
    have hzv : (zeroValue e).run P w = .ok i.zero w := by simp [zeroValue, typeInfo, hj, hjz]
    simp only [Sem.run_bind, hzv, Result.andThen_ok, Sem.run_pure]
    rw [hstart _ hz, hparts, hf]
    simp [newRow, newObj, Sem.run]

theorem wl_bs (hT : TabOk P T) (e s : Nat) {t : TypeId} {len : Nat} {parts : Array (Nat × Operand)} {i : TI} {z cs : List Value} (hop : o.op = .buildSlice t len parts) (h1 : sliceT T t e s = true) (hi : T e = some i) (hz : i.zero.cells = z.toArray) (hzl : Nat.beq z.length s = true) (hlen : Nat.ble (len * s) 16777216 = true)
    (hc : bld F (fun i => some (i * s, s)) parts.toList (List.replicate len z).flatten = some cs) (hg : o.guard = none) {d : Nat} (hd : o.dst = some d) (hn : Nat.blt d n = true)
    (k : ∀ g w1, New w w1 g cs e → wl P n ops rest Q (upd F d (.slice (some ⟨g, 0, none⟩) len len)) w1) : wl P n ops (o :: rest) Q F w :=
  wl_val hg hd hn (bs_run hT e s hop h1 hi hz hzl hlen hc) (k _ _ (new_alloc w cs e))

/-! ### a struct stored whole -/
theorem put_all {t : TypeId} : ∀ (vs cs : List Value) (g i : Nat) (w : World), w.heap[g]? = some (.cells cs.toArray t (0, 0)) → i + vs.length ≤ cs.length → (∀ v ∈ vs, v.oneCell' = true) →
    ∃ w1, (storeCells ⟨g, 0, none⟩ vs i).run P w = .ok () w1 ∧ Put w w1 g (setAll cs i vs) t
  | [], cs, g, i, w, hb, _, _ => ⟨w, by simp [storeCells], rfl, by simpa [setAll] using hb, ⟨rfl, rfl, rfl, Nat.le_refl _, fun _ _ _ => rfl⟩⟩
  | v :: vs, cs, g, i, w, hb, hl, h1 => by
    simp only [List.length_cons] at hl
    have hp := put_setCell (off := i) hb v
    obtain ⟨w1, hr, hp1⟩ := put_all vs (cs.set i v) g (i + 1) _ hp.blk (by simp; omega) (fun u hu => h1 u (by simp [hu]))
    have hc : w.cell? ⟨g, i, none⟩ = some cs[i] := cell_blk hb (by simp [show i < cs.length by omega])
    have hf : w.frozen? ⟨g, i, none⟩ = false := by simp [World.frozen?, hb]
    have ha : (⟨g, 0, none⟩ : Addr).add i = ⟨g, i, none⟩ := add_zero g i
    refine ⟨w1, ?_, hp1.size.trans hp.size, by simpa [setAll] using hp1.blk, ⟨hp1.grown.os.trans hp.grown.os, hp1.grown.tape.trans hp.grown.tape, hp1.grown.output.trans hp.grown.output, Nat.le_trans hp.grown.size hp1.grown.size, fun k hk hne => (hp1.grown.block k (Nat.lt_of_lt_of_le hk hp.grown.size) hne).trans (hp.grown.block k hk hne)⟩⟩
    simp only [storeCells, Sem.run_bind, ha]
    rw [run_store P w _ v .plain (h1 v (by simp)), hc]
    simp only [hf, Bool.false_eq_true, if_false, Result.andThen_ok]
    exact hr
def sizeT (T : Nat → Option TI) (t m : Nat) : Bool := match T t with | some i => Nat.beq i.size m | none => false
theorem sizeT_run (hT : TabOk P T) {t m : Nat} (h : sizeT T t m = true) : (sizeOf t).run P w = .ok m w := by
  unfold sizeT at h
  split at h
  · rename_i i hi
    rw [run_size hT hi, Nat.eq_of_beq_eq_true h]
  · cases h
/-- A struct into a block of one's own that is just as great. -/
theorem wl_Sa (hT : TabOk P T) {t t' : TypeId} {x y : Operand} {g : Nat} {cs vs : List Value} (hb : w.heap[g]? = some (.cells cs.toArray t' (0, 0))) (hop : o.op = .store t x y) (hx : ev F x = .pointer (some ⟨g, 0, none⟩)) (hy : ev F y = .agg vs.toArray)
    (hs : sizeT T t vs.length = true) (hl : vs.length = cs.length) (hv : ∀ v ∈ vs, v.oneCell' = true) (hg : o.guard = none) (hd : o.dst = none)
    (k : ∀ w1, Put w w1 g vs t' → wl P n ops rest Q F w1) : wl P n ops (o :: rest) Q F w := by
  obtain ⟨w1, hr, hp⟩ := put_all (P := P) vs cs g 0 w hb (by omega) hv
  have key : ∀ (vs cs pre : List Value), vs.length = cs.length → setAll (pre ++ cs) pre.length vs = pre ++ vs := by
    intro vs
    induction vs with
    | nil => intro cs pre h; have : cs = [] := List.eq_nil_of_length_eq_zero h.symm; simp [setAll, this]
    | cons v vs ih =>
      intro cs pre h
      cases cs with
      | nil => simp at h
      | cons c cs =>
        simp only [setAll]
        have e1 : (pre ++ c :: cs).set pre.length v = (pre ++ [v]) ++ cs := by simp
        rw [e1]
        have := ih cs (pre ++ [v]) (by simpa using h)
        simp only [List.length_append, List.length_singleton] at this
        rw [this]; simp
  have e := key vs cs [] hl
  simp only [List.nil_append, List.length_nil] at e
  rw [e] at hp
  refine wl_skp hg hd ?_ (k w1 hp)
  simp [execOp, hop, hx, hy, Instr.storeAt, Instr.sureAddr, storeVar, Value.cells, sizeT_run hT hs, hr]
end
attribute [irreducible] RetW PN PX
end Go.Proofs.Ytjggjhgbobmkhaa

/- The functions of this program: each has a body. WRITTEN BY gentab.py. -/
namespace Go.Proofs.Ytjggjhgbobmkhaa
theorem fn16 : FnOk Try.prog 16 := ⟨Try.f16, Try.func16, by kernel_rfl, by kernel_rfl⟩
theorem fn17 : FnOk Try.prog 17 := ⟨Try.f17, Try.func17, by kernel_rfl, by kernel_rfl⟩
theorem fn21 : FnOk Try.prog 21 := ⟨Try.f21, Try.func21, by kernel_rfl, by kernel_rfl⟩
theorem fn23 : FnOk Try.prog 23 := ⟨Try.f23, Try.func23, by kernel_rfl, by kernel_rfl⟩
theorem fn24 : FnOk Try.prog 24 := ⟨Try.f24, Try.func24, by kernel_rfl, by kernel_rfl⟩
theorem fn25 : FnOk Try.prog 25 := ⟨Try.f25, Try.func25, by kernel_rfl, by kernel_rfl⟩
theorem fn26 : FnOk Try.prog 26 := ⟨Try.f26, Try.func26, by kernel_rfl, by kernel_rfl⟩
theorem fn27 : FnOk Try.prog 27 := ⟨Try.f27, Try.func27, by kernel_rfl, by kernel_rfl⟩
theorem fn28 : FnOk Try.prog 28 := ⟨Try.f28, Try.func28, by kernel_rfl, by kernel_rfl⟩
theorem fn29 : FnOk Try.prog 29 := ⟨Try.f29, Try.func29, by kernel_rfl, by kernel_rfl⟩
theorem fn30 : FnOk Try.prog 30 := ⟨Try.f30, Try.func30, by kernel_rfl, by kernel_rfl⟩
theorem fn32 : FnOk Try.prog 32 := ⟨Try.f32, Try.func32, by kernel_rfl, by kernel_rfl⟩
theorem fn33 : FnOk Try.prog 33 := ⟨Try.f33, Try.func33, by kernel_rfl, by kernel_rfl⟩
theorem fn34 : FnOk Try.prog 34 := ⟨Try.f34, Try.func34, by kernel_rfl, by kernel_rfl⟩
theorem fn36 : FnOk Try.prog 36 := ⟨Try.f36, Try.func36, by kernel_rfl, by kernel_rfl⟩
theorem fn37 : FnOk Try.prog 37 := ⟨Try.f37, Try.func37, by kernel_rfl, by kernel_rfl⟩
theorem fn38 : FnOk Try.prog 38 := ⟨Try.f38, Try.func38, by kernel_rfl, by kernel_rfl⟩
theorem fn39 : FnOk Try.prog 39 := ⟨Try.f39, Try.func39, by kernel_rfl, by kernel_rfl⟩
theorem fn40 : FnOk Try.prog 40 := ⟨Try.f40, Try.func40, by kernel_rfl, by kernel_rfl⟩
theorem fn41 : FnOk Try.prog 41 := ⟨Try.f41, Try.func41, by kernel_rfl, by kernel_rfl⟩
theorem fn42 : FnOk Try.prog 42 := ⟨Try.f42, Try.func42, by kernel_rfl, by kernel_rfl⟩
theorem fn43 : FnOk Try.prog 43 := ⟨Try.f43, Try.func43, by kernel_rfl, by kernel_rfl⟩
theorem fn44 : FnOk Try.prog 44 := ⟨Try.f44, Try.func44, by kernel_rfl, by kernel_rfl⟩
theorem fn45 : FnOk Try.prog 45 := ⟨Try.f45, Try.func45, by kernel_rfl, by kernel_rfl⟩
theorem fn47 : FnOk Try.prog 47 := ⟨Try.f47, Try.func47, by kernel_rfl, by kernel_rfl⟩
theorem fn48 : FnOk Try.prog 48 := ⟨Try.f48, Try.func48, by kernel_rfl, by kernel_rfl⟩
theorem fn49 : FnOk Try.prog 49 := ⟨Try.f49, Try.func49, by kernel_rfl, by kernel_rfl⟩
theorem fn50 : FnOk Try.prog 50 := ⟨Try.f50, Try.func50, by kernel_rfl, by kernel_rfl⟩
theorem fn51 : FnOk Try.prog 51 := ⟨Try.f51, Try.func51, by kernel_rfl, by kernel_rfl⟩
theorem fn52 : FnOk Try.prog 52 := ⟨Try.f52, Try.func52, by kernel_rfl, by kernel_rfl⟩
theorem fn53 : FnOk Try.prog 53 := ⟨Try.f53, Try.func53, by kernel_rfl, by kernel_rfl⟩
theorem fn54 : FnOk Try.prog 54 := ⟨Try.f54, Try.func54, by kernel_rfl, by kernel_rfl⟩
theorem fn55 : FnOk Try.prog 55 := ⟨Try.f55, Try.func55, by kernel_rfl, by kernel_rfl⟩
theorem fn56 : FnOk Try.prog 56 := ⟨Try.f56, Try.func56, by kernel_rfl, by kernel_rfl⟩
theorem fn57 : FnOk Try.prog 57 := ⟨Try.f57, Try.func57, by kernel_rfl, by kernel_rfl⟩
theorem fn58 : FnOk Try.prog 58 := ⟨Try.f58, Try.func58, by kernel_rfl, by kernel_rfl⟩
theorem fn59 : FnOk Try.prog 59 := ⟨Try.f59, Try.func59, by kernel_rfl, by kernel_rfl⟩
theorem fn61 : FnOk Try.prog 61 := ⟨Try.f61, Try.func61, by kernel_rfl, by kernel_rfl⟩
theorem fn62 : FnOk Try.prog 62 := ⟨Try.f62, Try.func62, by kernel_rfl, by kernel_rfl⟩
theorem fn65 : FnOk Try.prog 65 := ⟨Try.f65, Try.func65, by kernel_rfl, by kernel_rfl⟩
end Go.Proofs.Ytjggjhgbobmkhaa

/- Regions that draw their order: heads that read alone, one that makes a block, and a tail that waits for all of them. -/
namespace Go.Proofs.Ytjggjhgbobmkhaa
open Go.RowKit
set_option linter.unusedVariables false
set_option linter.unusedSimpArgs false
/-- One value, in whatever world above w0; what is called leaves all that was there. -/
def Stable (Φ : World → Prop) : Prop := ∀ w w', Φ w → Below w.heap.size w w' → Φ w'
def quB (P : Program) (o : Oper) (a : Act) (C : World → Prop) (v : Value) : Prop := ∀ w, C w → o.quietAt P a (fun w' => Below w.heap.size w w') w v
def wpQB (P : Program) (ops : Array Oper) (C : World → Prop) (Q : Act → Prop) : List Oper → Act → Prop
  | [], a => Q a
  | o :: rest, a => if Region.wanted o (yielded ops a.tmps) then ∃ v, quB P o a C v ∧ wpQB P ops C Q rest (a.put o.dst v) else wpQB P ops C Q rest (a.put o.dst undef)
theorem quB_quiet {P : Program} {o : Oper} {a : Act} {C : World → Prop} (hC : Stable C) {v : Value} (h : quB P o a C v) (w : World) (hw : C w) : o.quietAt P a C w v := by
  have h1 := h w hw
  unfold Oper.quietAt at *
  generalize (execOp a.eval o).run P w = r at *
  cases r with
  | ok n w' =>
    cases n <;> simp only [Oper.quietUpon] at h1 ⊢ <;> first | exact h1 | exact ⟨h1.1, h1.2.mono fun e w'' ⟨h2, h3⟩ => ⟨h2, hC _ _ hw h3⟩⟩
  | halt x w' => exact h1
theorem wpQB_quiet {P : Program} {ops : Array Oper} {C : World → Prop} (hC : Stable C) {Q : Act → Prop} : ∀ {rest : List Oper} {a : Act}, wpQB P ops C Q rest a → wpQuiet P ops C Q rest a
  | [], a, h => h
  | o :: rest, a, h => by
    unfold wpQB at h
    unfold wpQuiet
    split
    · rename_i hw
      rw [if_pos hw] at h
      obtain ⟨v, h1, h2⟩ := h
      exact ⟨v, fun w hw => quB_quiet hC h1 w hw, wpQB_quiet hC h2⟩
    · rename_i hw
      rw [if_neg hw] at h
      exact wpQB_quiet hC h
theorem wpQB_mono {P : Program} {ops : Array Oper} {C : World → Prop} {K K' : Act → Prop} (hk : ∀ a, K a → K' a) : ∀ {rest : List Oper} {a : Act}, wpQB P ops C K rest a → wpQB P ops C K' rest a
  | [], a, h => hk _ h
  | o :: rest, a, h => by
    unfold wpQB at h ⊢
    split
    · rename_i hw
      rw [if_pos hw] at h
      obtain ⟨v, h1, h2⟩ := h
      exact ⟨v, h1, wpQB_mono hk h2⟩
    · rename_i hw
      rw [if_neg hw] at h
      exact wpQB_mono hk h

section
variable {P : Program} {ops : Array Oper} {md : Region.Mode} {C : World → Prop}
def hUp (P : Program) (C : World → Prop) (o : Oper) (a : Act) (Φ : World → Prop) (K : (World → Prop) → Act → Prop) : Prop :=
  (∃ v, quB P o a C v ∧ K Φ (a.put o.dst v)) ∨
  (∃ Ψ : Value → World → Prop, (∀ v, Stable (Ψ v)) ∧ (∀ w, C w → Φ w → ∃ v w', (execOp a.eval o).run P w = .ok (.value v) w' ∧ C w' ∧ Ψ v w') ∧ ∀ v, K (Ψ v) (a.put o.dst v))
def hOp (P : Program) (ops : Array Oper) (C : World → Prop) (i : Nat) (Φ : World → Prop) (K : (World → Prop) → Act → Prop) (a : Act) : Prop :=
  match ops[i]? with
  | none => K Φ a
  | some o => if Region.wanted o (yielded ops a.tmps) then hUp P C o a Φ K else K Φ (a.put o.dst undef)
def wpH (P : Program) (md : Region.Mode) (ops : Array Oper) (C : World → Prop) (n : Nat) (L : Array Bool → (World → Prop) → Act → Prop) : Nat → Array Bool → (World → Prop) → Act → Prop
  | 0, listed, Φ, a => L listed Φ a
  | f + 1, listed, Φ, a => Region.ready md ops listed ≠ [] ∧ ∀ i ∈ Region.ready md ops listed, i < n ∧ hOp P ops C i Φ (fun Φ' a' => wpH P md ops C n L f (listed.setIfInBounds i true) Φ' a') a
theorem hUp_mono {o : Oper} {a : Act} {Φ : World → Prop} {K K' : (World → Prop) → Act → Prop} (h : ∀ Φ a, K Φ a → K' Φ a) (hh : hUp P C o a Φ K) : hUp P C o a Φ K' := by
  rcases hh with ⟨v, h1, h2⟩ | ⟨Ψ, h1, h2, h3⟩
  · exact .inl ⟨v, h1, h _ _ h2⟩
  · exact .inr ⟨Ψ, h1, h2, fun v => h _ _ (h3 v)⟩
theorem hOp_mono {i : Nat} {a : Act} {Φ : World → Prop} {K K' : (World → Prop) → Act → Prop} (h : ∀ Φ a, K Φ a → K' Φ a) (hh : hOp P ops C i Φ K a) : hOp P ops C i Φ K' a := by
  unfold hOp at *
  split
  · rename_i ho; simp only [ho] at hh; exact h _ _ hh
  · rename_i o ho
    simp only [ho] at hh
    split
    · rename_i hw; simp only [hw, if_true] at hh; exact hUp_mono h hh
    · rename_i hw; simp only [hw] at hh; exact h _ _ hh
theorem wp_of_hUp (hC : Stable C) {o : Oper} {a : Act} {Φ : World → Prop} {K : (World → Prop) → Act → Prop} {K' : Act → World → Prop} {Q' : Exit → Act → World → Prop} {w : World} (hw : C w) (hst : Stable Φ) (hΦ : Φ w)
    (h : ∀ Φ a w', Stable Φ → C w' → Φ w' → K Φ a → K' a w') (hh : hUp P C o a Φ K) : o.wp P a w K' Q' := by
  rcases hh with ⟨v, h1, h2⟩ | ⟨Ψ, h1, h2, h3⟩
  · have h3 := h1 w hw
    unfold Oper.quietAt at h3
    unfold Oper.wp
    generalize (execOp a.eval o).run P w = r at *
    cases r with
    | ok n w' =>
      cases n <;> simp only [Oper.quietUpon] at h3 <;> simp only [Oper.upon]
      case value u =>
        obtain ⟨e1, e2⟩ := h3
        rw [e1, e2]
        exact h _ _ _ hst hw hΦ h2
      case skip =>
        obtain ⟨e1, e2⟩ := h3
        rw [e1, ← e2]
        exact h _ _ _ hst hw hΦ h2
      case enter f args =>
        obtain ⟨e1, hc⟩ := h3
        rw [e1]
        exact hc.mono fun e w'' ⟨he, hw''⟩ => by subst he; exact h _ _ _ hst (hC _ _ hw hw'') (hst _ _ hΦ hw'') h2
    | halt x w' => simp only [Oper.quietUpon] at h3
  · obtain ⟨v, w', h4, h5, h6⟩ := h2 w hw hΦ
    unfold Oper.wp
    rw [h4]
    exact h _ _ _ (h1 v) h5 h6 (h3 v)
theorem wpOp_of_hOp (hC : Stable C) {i : Nat} {a : Act} {Φ : World → Prop} {K : (World → Prop) → Act → Prop} {K' : Act → World → Prop} {Q' : Exit → Act → World → Prop} {w : World} (hw : C w) (hst : Stable Φ) (hΦ : Φ w)
    (h : ∀ Φ a w', Stable Φ → C w' → Φ w' → K Φ a → K' a w') (hh : hOp P ops C i Φ K a) : wpOp P ops Q' i K' a w := by
  unfold hOp at hh
  unfold wpOp
  split
  · rename_i ho; simp only [ho] at hh; exact h _ _ _ hst hw hΦ hh
  · rename_i o ho
    simp only [ho] at hh
    split
    · rename_i hwn; simp only [hwn, if_true] at hh; exact .inl (wp_of_hUp hC hw hst hΦ h hh)
    · rename_i hwn; simp only [hwn] at hh; exact h _ _ _ hst hw hΦ hh
theorem wpAny_of_H (hC : Stable C) {n g : Nat} {L : Array Bool → (World → Prop) → Act → Prop} {Q' : Exit → Act → World → Prop} (hL : ∀ listed Φ a w, C w → Φ w → L listed Φ a → wpAny P md ops Q' g listed a w) :
    ∀ (f : Nat) (listed : Array Bool) (Φ : World → Prop) (a : Act) (w : World), Stable Φ → C w → Φ w → wpH P md ops C n L f listed Φ a → wpAny P md ops Q' (f + g) listed a w
  | 0, listed, Φ, a, w, _, hw, hΦ, h => by rw [Nat.zero_add]; exact hL _ _ _ _ hw hΦ h
  | f + 1, listed, Φ, a, w, hst, hw, hΦ, h => by
    rw [show f + 1 + g = (f + g) + 1 by omega]
    exact ⟨fun h0 => absurd h0 h.1, fun i hi => wpOp_of_hOp hC hw hst hΦ (fun Φ' a' w' hst' hw' hΦ' h' => wpAny_of_H hC hL f _ Φ' a' w' hst' hw' hΦ' h') (h.2 i hi).2⟩
def YieldsB (P : Program) (ops : Array Oper) (C : World → Prop) (o : Oper) (v : Value) (a : Act) : Prop :=
  (Region.wanted o (yielded ops a.tmps) = true ∧ quB P o a C v) ∨ (Region.wanted o (yielded ops a.tmps) = false ∧ v = undef)
theorem YieldsB.hOp {i : Nat} {o : Oper} {v : Value} {a : Act} (hi : ops[i]? = some o) (hy : YieldsB P ops C o v a) {Φ : World → Prop} {K : (World → Prop) → Act → Prop} (h : K Φ (a.put o.dst v)) : hOp P ops C i Φ K a := by
  unfold Proofs.Ytjggjhgbobmkhaa.hOp
  simp only [hi]
  rcases hy with ⟨hw, hv⟩ | ⟨hw, rfl⟩
  · simp only [hw, if_true]; exact .inl ⟨v, hv, h⟩
  · simp only [hw, Bool.false_eq_true, if_false]; exact h
theorem YieldsB.of_same {o : Oper} {v : Value} {a a' : Act} (hy : YieldsB P ops C o v a) (he : execOp a'.eval o = execOp a.eval o)
    (hw : Region.wanted o (yielded ops a'.tmps) = Region.wanted o (yielded ops a.tmps)) : YieldsB P ops C o v a' := by
  unfold YieldsB quB Oper.quietAt at *
  rw [he, hw]
  exact hy
theorem hOp_put {j : Nat} {oi oj : Oper} {v : Value} (hj : ops[j]? = some oj) (hap : oi.apart ops oj = true)
    (hsi : ∀ cs b, oi.op ≠ .select cs b) (hsj : ∀ cs b, oj.op ≠ .select cs b) {Φ : World → Prop} {K : (World → Prop) → Act → Prop} {a : Act}
    (hy : YieldsB P ops C oi v a) (h : hOp P ops C j Φ K (a.put oi.dst v)) :
    hOp P ops C j Φ (fun Φ' a' => YieldsB P ops C oi v a' ∧ K Φ' (a'.put oi.dst v)) a := by
  obtain ⟨h1, h2, h3⟩ := Oper.apart_spec hap
  have keep : ∀ (a : Act), YieldsB P ops C oi v a → ∀ u, YieldsB P ops C oi v (a.put oj.dst u) := fun a hy u =>
    hy.of_same (execOp_put oi hsi a oj.dst u h3) (wanted_put oi a oj.dst u h3)
  unfold Proofs.Ytjggjhgbobmkhaa.hOp at *
  simp only [hj] at *
  rw [wanted_put oj a oi.dst v h1] at h
  split
  · rename_i hw
    simp only [hw, if_true] at h
    rcases h with ⟨u, hu, hn⟩ | ⟨Ψ, g1, g2, g3⟩
    · refine .inl ⟨u, fun w hw' => ?_, keep a hy u, by rw [← Act.put_comm a v u h2]; exact hn⟩
      have := hu w hw'
      unfold Oper.quietAt at *
      rwa [execOp_put oj hsj a oi.dst v h1] at this
    · refine .inr ⟨Ψ, g1, fun w hw' hΦ' => ?_, fun u => ⟨keep a hy u, by rw [← Act.put_comm a v u h2]; exact g3 u⟩⟩
      have := g2 w hw' hΦ'
      rwa [execOp_put oj hsj a oi.dst v h1] at this
  · rename_i hw
    simp only [hw] at h
    exact ⟨keep a hy _, by rw [← Act.put_comm a v undef h2]; exact h⟩
theorem wpH_first {n i : Nat} {oi : Oper} {v : Value} {L : Array Bool → (World → Prop) → Act → Prop} (hi : ops[i]? = some oi) (hsel : ∀ (j : Nat) (o : Oper) cs b, ops[j]? = some o → o.op ≠ .select cs b)
    (hs : Region.sinkB md ops n = true) (hc : Region.chainB md ops n = true) (hn : n < ops.size) (hin : i < n)
    (hdone : ∀ listed Φ a, L listed Φ a → ∀ j ∈ Region.ready md ops listed, n ≤ j) :
    ∀ (f : Nat) (listed : Array Bool) (Φ : World → Prop) (a : Act), HeadInv md ops n listed →
      (∀ j oj, ops[j]? = some oj → j ≠ i → listed.getD j true = false → (∀ e ∈ oj.after, Region.binds md e = true → e.on ≠ i) → oi.apart ops oj = true) →
      i ∈ Region.ready md ops listed → YieldsB P ops C oi v a →
      wpH P md ops C n L f (listed.setIfInBounds i true) Φ (a.put oi.dst v) → wpH P md ops C n L (f + 1) listed Φ a := by
  intro f
  induction f with
  | zero =>
    intro listed Φ a inv _ hr hy H
    have hun := (mem_ready.1 hr).1
    refine ⟨fun h => (by rw [h] at hr; cases hr), fun j hj => ?_⟩
    have hjn : j < n := by
      rcases Nat.lt_or_ge j n with h | h
      · exact h
      · exact absurd hj (tail_waits hs hc hn inv _ i rfl hin hun j h)
    refine ⟨hjn, ?_⟩
    by_cases hji : j = i
    · subst hji; exact hy.hOp hi H
    · have := hdone _ _ _ H j (ready_mono hj hji)
      omega
  | succ f ih =>
    intro listed Φ a inv hfree hr hy H
    have hun := (mem_ready.1 hr).1
    refine ⟨fun h => (by rw [h] at hr; cases hr), fun j hj => ?_⟩
    have hjn : j < n := by
      rcases Nat.lt_or_ge j n with h | h
      · exact h
      · exact absurd hj (tail_waits hs hc hn inv _ i rfl hin hun j h)
    refine ⟨hjn, ?_⟩
    by_cases hji : j = i
    · subst hji; exact hy.hOp hi H
    · have h1 := (H.2 j (ready_mono hj hji)).2
      obtain ⟨hjun, oj, hoj, hall⟩ := mem_ready.1 hj
      have hnot : ∀ e ∈ oj.after, Region.binds md e = true → e.on ≠ i := fun e he hb heq => by
        have h1 := hall e he hb
        rw [heq, getD_both hun] at h1
        cases h1
      have h2 := hOp_put hoj (hfree j oj hoj hji hjun hnot) (fun cs b => hsel i oi cs b hi) (fun cs b => hsel j oj cs b hoj) hy h1
      have hfree' : ∀ k ok, ops[k]? = some ok → k ≠ i → (listed.setIfInBounds j true).getD k true = false →
          (∀ e ∈ ok.after, Region.binds md e = true → e.on ≠ i) → oi.apart ops ok = true := fun k ok hk hki hun hno => by
        refine hfree k ok hk hki ?_ hno
        by_cases hjk : j = k
        · subst hjk; exact hjun
        · rw [getD_set_ne true hjk] at hun; exact hun
      refine hOp_mono (fun Φ' a' h3 => ih (listed.setIfInBounds j true) Φ' a' (inv.set hj hjn) hfree' (ready_mono hr (Ne.symm hji)) h3.1 ?_) h2
      rw [Array.setIfInBounds_comm _ _ hji]
      exact h3.2
/-- A chain of operations that make blocks or write a row of one's own, each known to be the only one that may come. -/
def wpT (P : Program) (C : World → Prop) (Lq : (World → Prop) → Act → Prop) : List Oper → (World → Prop) → Act → Prop
  | [], Φ, a => Lq Φ a
  | o :: c, Φ, a => o.guard = none ∧ ∃ Ψ : Value → World → Prop, (∀ v, Stable (Ψ v)) ∧ (∀ w, C w → Φ w → ∃ v w', (execOp a.eval o).run P w = .ok (.value v) w' ∧ C w' ∧ Ψ v w') ∧ ∀ v, wpT P C Lq c (Ψ v) (a.put o.dst v)
/-- m: how many heads there are that read alone; n: where the tail begins that waits for all. -/
def tailB (md : Region.Mode) (ops : Array Oper) (m n : Nat) : Bool :=
  Region.noSelect ops && decide (n < ops.size) && decide (m ≤ n) && Region.sinkB md ops n && Region.chainB md ops n && Region.lexHead md ops (ops.size - m) m 0 (Array.replicate ops.size false)
theorem wpH_chain {n g : Nat} {Lq : (World → Prop) → Act → Prop} :
    ∀ (c : List Oper) (k : Nat) (listed : Array Bool) (Φ : World → Prop) (a : Act), (∀ j, j < c.length → c[j]? = ops[k + j]?) → k + c.length = n → Region.seqB md ops (g + c.length) k listed = true → wpT P C Lq c Φ a →
    wpH P md ops C n (fun listed' Φ' a' => Region.seqB md ops g n listed' = true ∧ Lq Φ' a') c.length listed Φ a
  | [], k, listed, Φ, a, _, hk, hB, h => by
    have : k = n := by simpa using hk
    subst this
    exact ⟨by simpa using hB, h⟩
  | o :: c, k, listed, Φ, a, hl, hk, hB, h => by
    have h0 : ops[k]? = some o := by simpa using (hl 0 (by simp)).symm
    obtain ⟨hgd, Ψ, h1, h2, h3⟩ := h
    simp only [List.length_cons] at hB hk
    rw [← Nat.add_assoc] at hB
    simp only [Region.seqB, Bool.and_eq_true, decide_eq_true_eq] at hB
    refine ⟨fun h0 => (by rw [hB.1] at h0; cases h0), fun i hi => ?_⟩
    rw [hB.1] at hi
    have hik : i = k := by simpa using hi
    subst hik
    refine ⟨by omega, ?_⟩
    unfold Proofs.Ytjggjhgbobmkhaa.hOp
    simp only [h0]
    rw [if_pos (by simp [Region.wanted, hgd])]
    exact .inr ⟨Ψ, h1, h2, fun v => wpH_chain c (i + 1) _ (Ψ v) _ (fun j hj => by have := hl (j + 1) (by simp; omega); simpa [Nat.add_assoc, Nat.add_comm 1 j] using this) (by omega) hB.2 (h3 v)⟩
theorem wpH_lex {n g : Nat} {Lq : (World → Prop) → Act → Prop} (c : List Oper) (hsel : Region.noSelect ops = true) (hs : Region.sinkB md ops n = true) (hc : Region.chainB md ops n = true) (hn : n < ops.size) :
    ∀ (l : List Oper) (k : Nat) (listed : Array Bool) (Φ : World → Prop) (a : Act), (∀ j, j < l.length → l[j]? = ops[k + j]?) → (∀ j, j < c.length → c[j]? = ops[k + l.length + j]?) → k + l.length + c.length = n → HeadInv md ops n listed →
    Region.lexHead md ops (g + c.length) l.length k listed = true → wpQB P ops C (fun a' => wpT P C Lq c Φ a') l a →
    wpH P md ops C n (fun listed' Φ' a' => Region.seqB md ops g n listed' = true ∧ Lq Φ' a') (l.length + c.length) listed Φ a
  | [], k, listed, Φ, a, _, hcl, hk, inv, hB, h => by
    simp only [List.length_nil, Nat.zero_add, Nat.add_zero] at hk hcl ⊢
    exact wpH_chain c k listed Φ a hcl hk (by simpa [Region.lexHead] using hB) h
  | o :: l, k, listed, Φ, a, hl, hcl, hk, inv, hB, h => by
    have h0 : ops[k]? = some o := by simpa using (hl 0 (by simp)).symm
    simp only [List.length_cons, Region.lexHead, Bool.and_eq_true] at hB
    obtain ⟨⟨hr, hf⟩, hB'⟩ := hB
    simp only [List.length_cons] at hk hcl
    have hkn : k < n := by omega
    have hr' : k ∈ Region.ready md ops listed := by simpa using hr
    have key : ∃ v, YieldsB P ops C o v a ∧ wpQB P ops C (fun a' => wpT P C Lq c Φ a') l (a.put o.dst v) := by
      unfold wpQB at h
      by_cases hw : Region.wanted o (yielded ops a.tmps) = true
      · rw [if_pos hw] at h
        obtain ⟨v, h1, h2⟩ := h
        exact ⟨v, .inl ⟨hw, h1⟩, h2⟩
      · rw [if_neg hw] at h
        exact ⟨undef, .inr ⟨by simpa using hw, rfl⟩, h⟩
    obtain ⟨v, hy, hK⟩ := key
    have e : (o :: l).length + c.length = l.length + c.length + 1 := by simp; omega
    rw [e]
    exact wpH_first h0 (Region.noSelect_spec hsel) hs hc hn hkn (fun listed' Φ' a' hL => seqB_ready hL.1) (l.length + c.length) listed Φ a inv (Region.free_spec h0 hf) hr' hy
      (wpH_lex c hsel hs hc hn l (k + 1) _ Φ _ (fun j hj => by have := hl (j + 1) (by simp; omega); simpa [Nat.add_assoc, Nat.add_comm 1 j] using this) (fun j hj => by have := hcl j hj; rw [this]; congr 1; omega) (by omega) (inv.set hr' hkn) hB' hK)
/-- The chain, in the worlds themselves. -/
def chainA (P : Program) (C : World → Prop) (T : Act → World → Prop) : List Oper → Act → World → Prop
  | [], a, W => T a W
  | o :: c, a, W => ∃ v w2, (execOp a.eval o).run P W = .ok (.value v) w2 ∧ C w2 ∧ ∀ W', Below w2.heap.size w2 W' → C W' → chainA P C T c (a.put o.dst v) W'
theorem wpT_of_chain {T : Act → World → Prop} : ∀ (c : List Oper) (Φ : World → Prop) (a : Act), c.all (fun o => o.guard.isNone) = true → (∀ W, C W → Φ W → chainA P C T c a W) → wpT P C (fun Φ a => ∀ W, C W → Φ W → T a W) c Φ a
  | [], Φ, a, _, h => h
  | o :: c, Φ, a, hg, h => by
    simp only [List.all_cons, Bool.and_eq_true] at hg
    refine ⟨by simpa using hg.1, fun v W => ∃ w2, Below w2.heap.size w2 W ∧ ∀ W', Below w2.heap.size w2 W' → C W' → chainA P C T c (a.put o.dst v) W', fun v w w' ⟨w2, h1, h2⟩ hb => ⟨w2, bup h1 hb, h2⟩, fun w hw hΦ => ?_, fun v => wpT_of_chain c _ _ hg.2 fun W hW ⟨w2, h1, h2⟩ => h2 W h1 hW⟩
    obtain ⟨v, w2, h1, h2, h3⟩ := h w hw hΦ
    exact ⟨v, w2, h1, h2, w2, Below.refl _ _, h3⟩
/-- Heads that read alone, a chain that makes blocks or writes a row of one's own, and a tail that is walked in its order. -/
theorem wp_region_tail {id : Nat} {Q : Exit → Act → World → Prop} {a : Act} {w : World} {l : List Oper} (m n : Nat) (hC : Stable C) (hm : P.follows .mixedOrders = true) (hB : tailB .any l.toArray m n = true) (hgd : ((l.drop m).take (n - m)).all (fun o => o.guard.isNone) = true) (hCw : C w)
    (h : wpQB P l.toArray C (fun a' => ∀ W, C W → Below w.heap.size w W → chainA P C (wpList P l.toArray Q (l.drop n)) ((l.drop m).take (n - m)) a' W) (l.take m) a) : (Code.region id l.toArray true).wp P Q a w := by
  simp only [tailB, Bool.and_eq_true, decide_eq_true_eq] at hB
  obtain ⟨⟨⟨⟨⟨hsel, hn⟩, hmn⟩, hs⟩, hc⟩, hlex⟩ := hB
  have hn' : n < l.length := by simpa using hn
  have htl : (l.take m).length = m := by simp; omega
  have hcl : ((l.drop m).take (n - m)).length = n - m := by simp; omega
  have hdl : (l.drop n).length = l.toArray.size - n := by simp
  have inv0 : HeadInv .any l.toArray n (Array.replicate l.toArray.size false) :=
    ⟨by simp, fun j oj _ hl => (by rw [getD_replicate_false] at hl; cases hl), fun t _ ht => getD_in (by simpa using ht) (getD_replicate_false _ _)⟩
  have hg : l.toArray.size - m = (l.toArray.size - n) + ((l.drop m).take (n - m)).length := by rw [hcl]; simp; omega
  have H := wpH_lex (P := P) (C := C) (md := .any) (g := l.toArray.size - n) (Lq := fun Φ a' => ∀ W, C W → Φ W → wpList P l.toArray Q (l.drop n) a' W) ((l.drop m).take (n - m)) hsel hs hc hn (l.take m) 0 _ (fun W => Below w.heap.size w W) a (fun j hj => by
    have hj' : j < m := by rw [htl] at hj; exact hj
    simp [hj']) (fun j hj => by
    rw [hcl] at hj
    rw [htl, List.getElem?_take, if_pos hj, List.getElem?_drop]
    simp) (by rw [htl, hcl]; omega) inv0 (by rw [htl, ← hg]; exact hlex) (wpQB_mono (fun a' h => wpT_of_chain _ _ _ hgd fun W hW hb => h W hW hb) h)
  refine wp_region_any hm ?_
  have hst : Stable (fun W => Below w.heap.size w W) := fun _ _ h h' => bup h h'
  have hΦ : Below w.heap.size w { w with drawn := w.drawn + 1 } := ⟨rfl, rfl, rfl, Nat.le_refl _, fun _ _ => rfl⟩
  have hw' : C { w with drawn := w.drawn + 1 } := hC _ _ hCw ⟨rfl, rfl, rfl, Nat.le_refl _, fun _ _ => rfl⟩
  have := wpAny_of_H hC (Q' := Q) (g := l.toArray.size - n) (L := fun listed' Φ' a' => Region.seqB .any l.toArray (l.toArray.size - n) n listed' = true ∧ ∀ W, C W → Φ' W → wpList P l.toArray Q (l.drop n) a' W) (fun listed Φ a' W hW hΦ hL => by
    have := wpAny_of_seq (md := .any) (Q' := Q) (l.drop n) n listed a' W (fun j => by simp [List.getElem?_drop]) (by rw [hdl]; exact hL.1) (hL.2 W hW hΦ)
    rwa [hdl] at this) _ _ (fun W => Below w.heap.size w W) a _ hst hw' hΦ H
  have e : (l.take m).length + ((l.drop m).take (n - m)).length + (l.toArray.size - n) = l.toArray.size := by rw [htl, hcl]; simp; omega
  rwa [e] at this
end
end Go.Proofs.Ytjggjhgbobmkhaa

/- What it is that a system may be (numbers alone). -/
namespace Go.Proofs.Ytjggjhgbobmkhaa
set_option linter.unusedVariables false
set_option linter.unusedSimpArgs false
def inR (a b c : Int) : Bool := decide (b ≤ a) && decide (a < c)
def cellOk (vars : Int) (c : Cell) : Bool := inR c.v 0 vars && decide (c.args.length ≤ 6) && (c.fn || decide (c.args.length = 0)) && c.args.all fun n => inR n 0 vars
def conOk (vars : Int) (cells : Nat) (c : Con) : Bool :=
  decide (1 ≤ c.k) && decide (c.k ≤ 5) && inR c.a (if c.k = 5 then -1 else 0) vars && inR c.b 0 (if c.k = 1 then (cells : Int) else vars) && decide (c.args.length ≤ 6) &&
    (decide (c.k = 5) || decide (c.args.length = 0)) && c.args.all fun n => inR n (-1) vars
def bigOk (s : Sys) : Bool := decide (0 ≤ s.vars) && decide (s.vars ≤ 16384) && decide (s.cells.length ≤ 16384) && decide (s.cons.length ≤ 131072)
def rightB (s : Sys) : Bool := bigOk s && s.cells.all (cellOk s.vars) && s.cons.all (conOk s.vars s.cells.length)

theorem right_big {s : Sys} (h : s.vars < 0 ∨ 16384 < s.vars ∨ (16384 : Int) < s.cells.length ∨ (131072 : Int) < s.cons.length) : rightB s = false := by
  have : bigOk s = false := by
    unfold bigOk
    simp only [Bool.and_eq_false_iff, decide_eq_false_iff_not]
    omega
  simp [rightB, this]
theorem mem_get {α : Type} [Inhabited α] {xs : List α} {k : Nat} (hk : k < xs.length) : xs[k]! ∈ xs := by
  rw [getElem!_pos xs k hk]; exact List.getElem_mem hk
theorem all_false {α : Type} [Inhabited α] {p : α → Bool} {xs : List α} {k : Nat} (hk : k < xs.length) (h : p xs[k]! = false) : xs.all p = false := by
  rw [List.all_eq_false]
  exact ⟨_, mem_get hk, by rw [h]; simp⟩
theorem all_true {α : Type} [Inhabited α] {p : α → Bool} {xs : List α} (h : ∀ k, k < xs.length → p xs[k]! = true) : xs.all p = true := by
  rw [List.all_eq_true]
  intro x hx
  obtain ⟨k, hk, rfl⟩ := List.getElem_of_mem hx
  have := h k hk
  rwa [getElem!_pos xs k hk] at this
theorem right_cell {s : Sys} {k : Nat} (hk : k < s.cells.length) (h : cellOk s.vars s.cells[k]! = false) : rightB s = false := by
  simp [rightB, all_false hk h]
theorem cell_head {vars : Int} {c : Cell} (h : inR c.v 0 vars = false ∨ (6 : Int) < c.args.length ∨ (c.fn = false ∧ 0 < c.args.length)) : cellOk vars c = false := by
  unfold cellOk
  rcases h with h | h | ⟨h, h'⟩
  · simp [h]
  · simp [show ¬ c.args.length ≤ 6 by omega]
  · simp [h, show ¬ c.args.length = 0 by omega]
theorem cell_bad1 {vars : Int} {c : Cell} (h : inR c.v 0 vars = false) : cellOk vars c = false := cell_head (.inl h)
theorem cell_bad2 {vars : Int} {c : Cell} (h : (6 : Int) < c.args.length) : cellOk vars c = false := cell_head (.inr (.inl h))
theorem cell_bad3 {vars : Int} {c : Cell} (h : c.fn = false) (h' : (0 : Int) < c.args.length) : cellOk vars c = false := cell_head (.inr (.inr ⟨h, by omega⟩))
theorem cell_arg {vars : Int} {c : Cell} {j : Nat} (hj : j < c.args.length) (h : inR c.args[j]! 0 vars = false) : cellOk vars c = false := by
  unfold cellOk
  rw [all_false (p := fun n => inR n 0 vars) hj h]
  simp
theorem cell_ok {vars : Int} {c : Cell} (h0 : inR c.v 0 vars = true) (h1 : (c.args.length : Int) ≤ 6) (h2 : c.fn = true ∨ c.args.length = 0) (h3 : ∀ j, j < c.args.length → inR c.args[j]! 0 vars = true) : cellOk vars c = true := by
  unfold cellOk
  rw [all_true (p := fun n => inR n 0 vars) h3, h0]
  rcases h2 with h2 | h2
  · simp [h2]; omega
  · simp [h2]
theorem right_con {s : Sys} {k : Nat} (hk : k < s.cons.length) (h : conOk s.vars s.cells.length s.cons[k]! = false) : rightB s = false := by
  simp [rightB, all_false hk h]
theorem right_all {s : Sys} (h0 : 0 ≤ s.vars) (h1 : s.vars ≤ 16384) (h2 : (s.cells.length : Int) ≤ 16384) (h3 : (s.cons.length : Int) ≤ 131072)
    (hc : ∀ k, k < s.cells.length → cellOk s.vars s.cells[k]! = true) (hn : ∀ k, k < s.cons.length → conOk s.vars s.cells.length s.cons[k]! = true) : rightB s = true := by
  unfold rightB bigOk
  rw [all_true hc, all_true hn]
  simp; omega
theorem all_ge {p : Nat → Prop} {k n : Nat} (h : ∀ j, j < k → p j) (hk : ¬ k < n) : ∀ j, j < n → p j := fun j hj => h j (by omega)
theorem all_succ {p : Nat → Prop} {k : Nat} (h : ∀ j, j < k → p j) (hk : p k) : ∀ j, j < k + 1 → p j := fun j hj => by
  rcases Nat.lt_or_ge j k with h1 | h1
  · exact h j h1
  · have : j = k := by omega
    subst this; exact hk
/-- All of it but the arguments. -/
def conHead (vars : Int) (cells : Nat) (c : Con) : Bool :=
  decide (1 ≤ c.k) && decide (c.k ≤ 5) && inR c.a (if c.k = 5 then -1 else 0) vars && inR c.b 0 (if c.k = 1 then (cells : Int) else vars) && decide (c.args.length ≤ 6) &&
    (decide (c.k = 5) || decide (c.args.length = 0))
theorem con_head {vars : Int} {cells : Nat} {c : Con} (h : conHead vars cells c = false) : conOk vars cells c = false := by
  unfold conOk
  unfold conHead at h
  rw [h]; rfl
theorem con_arg {vars : Int} {cells : Nat} {c : Con} {j : Nat} (hj : j < c.args.length) (h : inR c.args[j]! (-1) vars = false) : conOk vars cells c = false := by
  unfold conOk
  rw [all_false (p := fun n => inR n (-1) vars) hj h]
  simp
theorem con_ok {vars : Int} {cells : Nat} {c : Con} (h : conHead vars cells c = true) (h3 : ∀ j, j < c.args.length → inR c.args[j]! (-1) vars = true) : conOk vars cells c = true := by
  unfold conOk
  unfold conHead at h
  rw [all_true (p := fun n => inR n (-1) vars) h3, h]; rfl
section
variable {vars : Int} {cells : Nat} {c : Con}
theorem con_badn (h : c.k < 1 ∨ 5 < c.k ∨ (6 : Int) < c.args.length ∨ (¬ c.k = 5 ∧ (0 : Int) < c.args.length)) : conHead vars cells c = false := by
  unfold conHead
  rcases h with h | h | h | ⟨h, h'⟩
  · simp [show ¬ 1 ≤ c.k by omega]
  · simp [show ¬ c.k ≤ 5 by omega]
  · simp [show ¬ c.args.length ≤ 6 by omega]
  · simp [h, show ¬ c.args.length = 0 by omega, show ¬ c.args = [] by intro e; rw [e] at h'; simp at h']
theorem con_badA5 (h5 : c.k = 5) (h : inR c.a (-1) vars = false) : conHead vars cells c = false := by unfold conHead; simp [h5, h]
theorem con_badA (h5 : ¬ c.k = 5) (h : inR c.a 0 vars = false) : conHead vars cells c = false := by unfold conHead; simp [h5, h]
theorem con_badB1 (h1 : c.k = 1) (h : inR c.b 0 cells = false) : conHead vars cells c = false := by unfold conHead; simp [h1, h]
theorem con_badB (h1 : ¬ c.k = 1) (h : inR c.b 0 vars = false) : conHead vars cells c = false := by unfold conHead; simp [h1, h]
theorem con_good5 (h5 : c.k = 5) (ha : inR c.a (-1) vars = true) (hb : inR c.b 0 vars = true) (hl : (c.args.length : Int) ≤ 6) : conHead vars cells c = true := by
  unfold conHead; simp [h5, ha, hb]; omega
theorem con_good1 (h1 : c.k = 1) (ha : inR c.a 0 vars = true) (hb : inR c.b 0 cells = true) (hl : ¬ (0 : Int) < c.args.length) : conHead vars cells c = true := by
  have : c.args = [] := List.eq_nil_of_length_eq_zero (by omega)
  unfold conHead; simp [h1, ha, hb, this]
theorem con_goodk (h1 : 1 ≤ c.k) (h2 : c.k ≤ 5) (h3 : ¬ c.k = 1) (h4 : ¬ c.k = 5) (ha : inR c.a 0 vars = true) (hb : inR c.b 0 vars = true) (hl : ¬ (0 : Int) < c.args.length) : conHead vars cells c = true := by
  have : c.args = [] := List.eq_nil_of_length_eq_zero (by omega)
  unfold conHead; simp [h1, h2, h3, h4, ha, hb, this]
end
section
variable {vars : Int} {cells : Nat} {c : Con}
theorem con_val1 (h1 : c.k = 1) : conOk vars cells c = (inR c.a 0 vars && inR c.b 0 cells && decide ((c.args.length : Int) = 0)) := by
  unfold conOk
  cases hl : c.args with
  | nil => simp [h1, hl]
  | cons a l => simp [h1, hl]; intros; omega
theorem con_valk (h1 : 2 ≤ c.k) (h2 : c.k ≤ 4) : conOk vars cells c = (inR c.a 0 vars && inR c.b 0 vars && decide ((c.args.length : Int) = 0)) := by
  unfold conOk
  have e1 : ¬ c.k = 1 := by omega
  have e5 : ¬ c.k = 5 := by omega
  cases hl : c.args with
  | nil => simp [e1, e5, hl, show 1 ≤ c.k by omega, show c.k ≤ 5 by omega]
  | cons a l => simp [e1, e5, hl]; intros; omega
theorem con_val5 (h5 : c.k = 5) (hall : (c.args.all fun n => inR n (-1) vars) = true) : conOk vars cells c = (inR c.a (-1) vars && inR c.b 0 vars && decide ((c.args.length : Int) ≤ 6)) := by
  unfold conOk
  rw [hall]
  simp [h5]
  congr 1
  rw [decide_eq_decide]
  omega
theorem con_valn (h : c.k < 1 ∨ 5 < c.k) : conOk vars cells c = false := con_head (con_badn (by omega))
end
end Go.Proofs.Ytjggjhgbobmkhaa
