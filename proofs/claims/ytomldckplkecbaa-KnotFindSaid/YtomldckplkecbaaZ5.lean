/- Several texts of one claim in one file: E7 E8 E9 EX EX2 EX3. -/
import Derived.Test.YtomldckplkecbaaZ4
/- Rows that grow: what their elements look at is a list of blocks. -/
namespace Go.Proofs.Ytomldckplkecbaa
open Go.RowKit
set_option linter.unusedVariables false
set_option linter.unusedSimpArgs false
/-- A row of the call's own: its elements are what d reads, whatever becomes of other blocks than its own and those of bs. -/
structure GRow {α : Type} [Inhabited α] (sz : Nat) (d : Dec α) (e : TypeId) (base : Nat) (w : World) (v : Value) (xs : List α) (bs : List Nat) : Prop where
  own : ∃ flat, w.ownsRow base e sz v xs.length flat ∧ ∀ w', (∀ b ∈ bs, w'.heap[b]? = w.heap[b]?) → Elems sz d w' flat xs
  lt : ∀ b ∈ bs, base ≤ b ∧ b < w.heap.size
  ne : ∀ b ∈ bs, some b ≠ v.ownBlock
section
variable {α : Type} [Inhabited α] {sz : Nat} {d : Dec α} {e : TypeId} {base : Nat} {w w1 : World} {v : Value} {xs : List α} {bs : List Nat}
theorem GRow.nil (sz : Nat) (d : Dec α) (e : TypeId) (base : Nat) (w : World) : GRow sz d e base w (.slice none 0 0) ([] : List α) [] :=
  ⟨⟨[], own_nil .., fun _ _ => Elems.nil ..⟩, by simp, by simp⟩
theorem GRow.olt (h : GRow sz d e base w v xs bs) : ∀ k, v.ownBlock = some k → base ≤ k ∧ k < w.heap.size := by
  obtain ⟨flat, h1, _⟩ := h.own
  exact h1.lt
/-- What doesn't touch its blocks leaves it. -/
theorem GRow.stays (h : GRow sz d e base w v xs bs) (row : Option Nat) (hg : w.grownBy w1 row) (h1 : ∀ b ∈ bs, some b ≠ row) (h2 : v.ownBlock = none ∨ v.ownBlock ≠ row) : GRow sz d e base w1 v xs bs := by
  obtain ⟨flat, h3, h4⟩ := h.own
  refine ⟨⟨flat, h3.kept hg h2, fun w' hw' => h4 w' fun b hb => (hw' b hb).trans (hg.block b (h.lt b hb).2 (h1 b hb))⟩, fun b hb => ⟨(h.lt b hb).1, Nat.lt_of_lt_of_le (h.lt b hb).2 hg.size⟩, h.ne⟩
theorem GRow.below (h : GRow sz d e base w v xs bs) (hb : Below w.heap.size w w1) : GRow sz d e base w1 v xs bs := h.stays none (grown_of hb) (fun _ _ => nofun) (Classical.em _)
/-- A block that is none of its own is written. -/
theorem GRow.other (h : GRow sz d e base w v xs bs) {g : Nat} (hg : w.grownBy w1 (some g)) (h1 : ∀ b ∈ bs, b ≠ g) (h2 : ∀ k, v.ownBlock = some k → k ≠ g) : GRow sz d e base w1 v xs bs := by
  refine h.stays (some g) hg (fun b hb e => h1 b hb (by simpa using e)) ?_
  cases ho : v.ownBlock with
  | none => exact .inl rfl
  | some k => exact .inr fun e => h2 k ho (by simpa using e)
theorem GRow.row (h : GRow sz d e base w v xs bs) : ∃ A c, v = .slice A xs.length c ∧ xs.length ≤ c ∧ RowR sz d w A xs := by
  obtain ⟨flat, h1, h2⟩ := h.own
  exact row_of_own h1 rfl (h2 w fun _ _ => rfl)
theorem GRow.rowAt {A : Option Addr} {n c : Nat} (h : GRow sz d e base w (.slice A n c) xs bs) : n = xs.length ∧ xs.length ≤ c ∧ RowR sz d w A xs := by
  obtain ⟨A', c', e1, h1, h2⟩ := h.row
  injection e1 with e1 e2 e3
  subst e1 e2 e3
  exact ⟨rfl, h1, h2⟩
/-- It is read the same wherever its blocks stand. -/
theorem GRow.reads {A : Option Addr} {n c : Nat} (h : GRow sz d e base w (.slice A n c) xs bs) (w' : World) (hb : ∀ b ∈ bs ++ (Value.slice A n c).ownBlock.toList, w'.heap[b]? = w.heap[b]?) : RowR sz d w' A xs := by
  obtain ⟨flat, h1, h2⟩ := h.own
  have h3 : w'.ownsRow base e sz (.slice A n c) xs.length flat := by
    refine ⟨h1.1, h1.2.imp id ?_⟩
    rintro ⟨g, cap, cur, h4, h5, h6, h7⟩
    refine ⟨g, cap, cur, h4, h5, ?_, h7⟩
    rw [hb g (by rw [h4]; simp [Value.ownBlock])]
    exact h6
  obtain ⟨A', c', e1, _, h4⟩ := row_of_own h3 rfl (h2 w' fun b hb' => hb b (by simp [hb']))
  injection e1 with e1 _ _
  subst e1
  exact h4
/-- One more element, whose reading looks at the blocks of cs' list. -/
theorem GRow.push {flat cs : List Value} {v' : Value} {x : α} {bs' : List Nat} (h : GRow sz d e base w v xs bs) (hflat : ∀ w', (∀ b ∈ bs, w'.heap[b]? = w.heap[b]?) → Elems sz d w' flat xs)
    (hown : w1.ownsRow base e sz v' (xs.length + 1) (flat ++ cs)) (hg : w.grownBy w1 v.ownBlock) (hob : v'.ownBlock = v.ownBlock ∨ v'.ownBlock = some w.heap.size)
    (hcs : cs.length = sz) (hx : ∀ w', (∀ b ∈ bs', w'.heap[b]? = w.heap[b]?) → d w' cs x) (hlt : ∀ b ∈ bs', base ≤ b ∧ b < w.heap.size) (hne : ∀ b ∈ bs', some b ≠ v.ownBlock) : GRow sz d e base w1 v' (xs ++ [x]) (bs ++ bs') := by
  have hall : ∀ b ∈ bs ++ bs', (base ≤ b ∧ b < w.heap.size) ∧ some b ≠ v.ownBlock := fun b hb => by
    rcases List.mem_append.1 hb with hb | hb
    · exact ⟨h.lt b hb, h.ne b hb⟩
    · exact ⟨hlt b hb, hne b hb⟩
  have same : ∀ b ∈ bs ++ bs', w1.heap[b]? = w.heap[b]? := fun b hb => hg.block b (hall b hb).1.2 (hall b hb).2
  refine ⟨⟨flat ++ cs, by simpa using hown, fun w' hw' => ?_⟩, fun b hb => ⟨(hall b hb).1.1, Nat.lt_of_lt_of_le (hall b hb).1.2 hg.size⟩, fun b hb => ?_⟩
  · exact (hflat w' fun b hb => (hw' b (by simp [hb])).trans (same b (by simp [hb]))).push hcs (hx w' fun b hb => (hw' b (by simp [hb])).trans (same b (by simp [hb])))
  · rcases hob with e | e
    · rw [e]; exact (hall b hb).2
    · rw [e]; intro e'; have := (hall b hb).1.2; simp at e'; omega
/-- The base may be less. -/
theorem GRow.lower {b' : Nat} (h : GRow sz d e base w v xs bs) (hb : b' ≤ base) : GRow sz d e b' w v xs bs := by
  obtain ⟨flat, h1, h2⟩ := h.own
  refine ⟨⟨flat, ⟨h1.1, h1.2.imp id ?_⟩, h2⟩, fun b hb' => ⟨Nat.le_trans hb (h.lt b hb').1, (h.lt b hb').2⟩, h.ne⟩
  rintro ⟨g, cap, cur, h4, h5, h6⟩
  exact ⟨g, cap, cur, h4, Nat.le_trans hb h5, h6⟩
end
/-- A row of ints. -/
abbrev GInts (base : Nat) (w : World) (v : Value) (xs : List Int) := GRow 1 (dI .i64) 3 base w v xs []
theorem dCell_of {w : World} {base : Nat} {A : Option Addr} {n c : Nat} {xs : List Int} (h : GInts base w (.slice A n c) xs) (f : Bool) (v : Int) (hv : -9223372036854775808 ≤ v ∧ v ≤ 9223372036854775807) (w' : World) (hb : ∀ b ∈ (Value.slice A n c).ownBlock.toList, w'.heap[b]? = w.heap[b]?) :
    dCell w' [.bool f, .int .i64 v, .slice A n c] ⟨f, v, xs⟩ := by
  obtain ⟨h1, h2, _⟩ := h.rowAt
  exact ⟨A, c, by rw [h1], h2, h.reads w' (by simpa using hb), hv⟩
theorem dCon_of {w : World} {base : Nat} {A : Option Addr} {n c : Nat} {xs : List Int} (h : GInts base w (.slice A n c) xs) (k a b : Int) (hk : 0 ≤ k ∧ k ≤ 255) (ha : -9223372036854775808 ≤ a ∧ a ≤ 9223372036854775807) (hb' : -9223372036854775808 ≤ b ∧ b ≤ 9223372036854775807) (w' : World) (hb : ∀ b ∈ (Value.slice A n c).ownBlock.toList, w'.heap[b]? = w.heap[b]?) :
    dCon w' [.int .u8 k, .int .i64 a, .int .i64 b, .slice A n c] ⟨k, a, b, xs⟩ := by
  obtain ⟨h1, h2, _⟩ := h.rowAt
  exact ⟨A, c, by rw [h1], h2, h.reads w' (by simpa using hb), hk, ha, hb'⟩
theorem ints_one {w : World} {flat : List Value} {xs : List Int} {x : Int} (hx : -9223372036854775808 ≤ x ∧ x ≤ 9223372036854775807) : dI .i64 w [.int .i64 x] x := ⟨rfl, hx⟩
end Go.Proofs.Ytomldckplkecbaa

/- Functions that capture, the greater of two, functions without a result, elements written in place. -/
namespace Go.Proofs.Ytomldckplkecbaa
open Go.RowKit
set_option linter.unusedVariables false
set_option linter.unusedSimpArgs false
section
variable {P : Program} {T : Nat → Option TI} {n : Nat} {Q : Post} {F : Fm} {w : World} {ops : Array Oper} {rest : List Oper} {o : Oper} {K : Fm → Prop} {C : World → Prop}
theorem wl_mf {fn : Fn} {first caps : Array Operand} {fs cs : List Value} (hop : o.op = .makeFunc fn first caps) (hf : first.toList.map (ev F) = fs) (hc : caps.toList.map (ev F) = cs) (hg : o.guard = none) {d : Nat} (hd : o.dst = some d) (hn : Nat.blt d n = true)
    (k : wl P n ops rest Q (upd F d (.func fn fs.toArray cs.toArray)) w) : wl P n ops (o :: rest) Q F w := by
  refine wl_val hg hd hn ?_ k
  have e1 : first.map (ev F) = fs.toArray := Array.toList_inj.1 (by rw [Array.toList_map, hf])
  have e2 : caps.map (ev F) = cs.toArray := Array.toList_inj.1 (by rw [Array.toList_map, hc])
  simp [execOp, hop, Instr.makeFunc, e1, e2]
/-- A function value that has captured variables is called. -/
theorem wl_CF {f : FuncId} {c : Call} {x : Operand} {first args caps : List Value} {R : Ending → World → Prop} (hf : FnOk P f) (hc : Calls P f (first ++ args ++ caps).toArray w R) (hop : o.op = .call c) (hcal : c.callee = .value x) (hx : ev F x = .func (.func f) first.toArray caps.toArray) (hargs : c.args.toList.map (ev F) = args) (hg : o.guard = none) {d : Nat} (hd : o.dst = some d) (hn : Nat.blt d n = true)
    (k : ∀ e w1, R e w1 → ∃ v, e = .returned v ∧ wl P n ops rest Q (upd F d v) w1) : wl P n ops (o :: rest) Q F w := by
  refine wl_ent hg hd hn ?_ hc k
  have : c.args.map (ev F) = args.toArray := Array.toList_inj.1 (by rw [Array.toList_map, hargs])
  have e : (first ++ args ++ caps).toArray = first.toArray ++ args.toArray ++ caps.toArray := by simp
  rw [e]
  simp [execOp, hop, resolve, hcal, hx, Deferred.ofValue, this, invoke, run_callFunc hf]
theorem max_run {c : Call} {x y : Operand} {ki : IntKind} {a b : Int} (hop : o.op = .call c) (hcal : c.callee = .builtin .max) (hargs : c.args.toList = [x, y]) (hx : ev F x = .int ki a) (hy : ev F y = .int ki b) : (execOp (ev F) o).run P w = .ok (.value (.int ki (if b > a then b else a))) w := by
  obtain ⟨callee, ⟨args⟩, tys⟩ := c
  simp only at hcal hargs
  subst hcal hargs
  simp [execOp, hop, resolve, invoke, builtin, Builtin.max_, Builtin.max2, hx, hy]
theorem wl_max {c : Call} {x y : Operand} {ki : IntKind} {a b : Int} (hop : o.op = .call c) (hcal : c.callee = .builtin .max) (hargs : c.args.toList = [x, y]) (hx : ev F x = .int ki a) (hy : ev F y = .int ki b) (hg : o.guard = none) {d : Nat} (hd : o.dst = some d) (hn : Nat.blt d n = true)
    (k : ∀ m, m = (if b > a then b else a) → wl P n ops rest Q (upd F d (.int ki m)) w) : wl P n ops (o :: rest) Q F w := wl_val hg hd hn (max_run hop hcal hargs hx hy) (k _ rfl)
theorem wl_addk {x y : Operand} {xt yt : TypeId} {ki : IntKind} {a b : Int} (hop : o.op = .binOp .add xt x y yt) (hx : ev F x = .int ki a) (hy : ev F y = .int ki b) (hg : o.guard = none) {d : Nat} (hd : o.dst = some d) (hn : Nat.blt d n = true) (hi : inK ki (a + b))
    (k : wl P n ops rest Q (upd F d (.int ki (a + b))) w) : wl P n ops (o :: rest) Q F w := by
  refine wl_addw hop hx hy hg hd hn ?_
  rw [inK_wrap hi]
  exact k
/-- An element of a block of one's own is written. -/
theorem wl_Se (hT : TabOk P T) {t t' : TypeId} {x y : Operand} {i : TI} {g j : Nat} {cs : List Value} {v : Value} (hb : w.heap[g]? = some (.cells cs.toArray t' (0, 0))) (hop : o.op = .store t x y) (hx : ev F x = .pointer (some ((⟨g, 0, none⟩ : Addr).add j))) (hy : ev F y = v)
    (hi : T t = some i) (h1 : i.size = 1) (hv : v.oneCell' = true) (hoff : j < cs.length) (hg : o.guard = none) (hd : o.dst = none)
    (k : ∀ w1, Put w w1 g (cs.set j v) t' → wl P n ops rest Q F w1) : wl P n ops (o :: rest) Q F w :=
  wl_S (off := j) hT hb hop (by rw [hx, add_zero]) hy hi h1 hv hoff hg hd k
theorem fin0 {fn : Func} {R : Ending → World → Prop} (hr : fn.results = #[]) (h : R (.returned (.tuple #[])) w) : Fin P fn R F w := by
  unfold Fin retQ
  intro tmps ht
  refine ⟨.tuple #[], ?_, h⟩
  unfold results
  simp [hr]
end
end Go.Proofs.Ytomldckplkecbaa

/- Rows appended onto rows; rows of the call's own, written in place. -/
namespace Go.Proofs.Ytomldckplkecbaa
open Go.RowKit
set_option linter.unusedVariables false
set_option linter.unusedSimpArgs false
theorem take_next {α : Type} [Inhabited α] {xs : List α} {i : Nat} (h : i < xs.length) : xs.take (i + 1) = xs.take i ++ [xs[i]!] := by
  rw [getElem!_pos xs i h]
  simp
/-- What is said of one cell each. -/
def OneC {α : Type} (d : Dec α) : Prop := ∀ w cs x, d w cs x → ∀ u ∈ cs, u.oneCell' = true
theorem one_I (k : IntKind) : OneC (dI k) := fun w cs x h u hu => by
  rw [h.1] at hu
  simp at hu
  subst hu
  rfl
theorem one_B : OneC dB := fun w cs x h u hu => by
  rw [show cs = [.bool x] from h] at hu
  simp at hu
  subst hu
  rfl
theorem one_Cell : OneC dCell := fun w cs x ⟨A, c, h, _⟩ u hu => by
  rw [h] at hu
  simp at hu
  rcases hu with rfl | rfl | rfl <;> rfl
theorem one_Con : OneC dCon := fun w cs x ⟨A, c, h, _⟩ u hu => by
  rw [h] at hu
  simp at hu
  rcases hu with rfl | rfl | rfl | rfl <;> rfl
theorem row_flat {α : Type} [Inhabited α] {sz : Nat} {d : Dec α} {w : World} {ad : Addr} {xs : List α} (h : RowR sz d w (some ad) xs) (hd : OneC d) :
    ∃ flat, (∀ j u, flat[j]? = some u → w.cell? (ad.add j) = some u) ∧ Elems sz d w flat xs ∧ ∀ u ∈ flat, u.oneCell' = true := by
  have key : ∀ k, k ≤ xs.length → ∃ flat, (∀ j u, flat[j]? = some u → w.cell? (ad.add j) = some u) ∧ Elems sz d w flat (xs.take k) ∧ ∀ u ∈ flat, u.oneCell' = true := by
    intro k
    induction k with
    | zero => exact fun _ => ⟨[], by simp, by simpa using Elems.nil .., by simp⟩
    | succ k ih =>
      intro hk
      obtain ⟨flat, h1, h2, h3⟩ := ih (by omega)
      obtain ⟨ad', cs, e, hl, hc, hx⟩ := h.2 k (by omega)
      cases e
      refine ⟨flat ++ cs, fun j u hu => ?_, ?_, ?_⟩
      · rcases Nat.lt_or_ge j flat.length with hj | hj
        · rw [List.getElem?_append_left hj] at hu
          exact h1 j u hu
        · rw [List.getElem?_append_right hj] at hu
          have hfl := h2.1
          rw [List.length_take, Nat.min_eq_left (by omega)] at hfl
          have := hc (j - flat.length) u hu
          rwa [show k * sz + (j - flat.length) = j by omega] at this
      · rw [take_next (by omega)]
        exact h2.push hl hx
      · intro u hu
        rcases List.mem_append.1 hu with hu | hu
        · exact h3 u hu
        · exact hd _ _ _ hx u hu
  obtain ⟨flat, h1, h2, h3⟩ := key xs.length (Nat.le_refl _)
  rw [List.take_length] at h2
  exact ⟨flat, h1, h2, h3⟩
section
variable {P : Program} {T : Nat → Option TI} {n : Nat} {Q : Post} {F : Fm} {w : World} {ops : Array Oper} {rest : List Oper} {o : Oper} {K : Fm → Prop} {C : World → Prop}
theorem run_append_none (base : Nat) (t ty e : TypeId) (i : TypeInfo) (size : Nat) (ht : P.underlying t = some (.slice e)) (hi : P.info? e = some i)
    (v : Value) (n : Nat) (xs : List Value) (hown : w.ownsRow base e size v n xs) (cc : Nat) :
    (Builtin.append_ #[t, t] ty #[v, .slice none 0 cc]).run P w = .ok v w := by
  rcases hown.2 with ⟨rfl, rfl⟩ | ⟨g, cap, cur, rfl, _, _, hnc, _⟩
  · simp [Builtin.append_, run_underlying ht, sizeOf, typeInfo, hi, Builtin.lenOf, Builtin.firstCells]
  · simp [Builtin.append_, run_underlying ht, sizeOf, typeInfo, hi, Builtin.lenOf, Builtin.firstCells, hnc, storeCells]
/-- append(v, row...): the row is any that can be read. -/
theorem apr_run (hT : TabOk P T) (e s b : Nat) {α : Type} [Inhabited α] {d : Dec α} {base len : Nat} {v : Value} {flat : List Value} {xs : List α} {B : Option Addr} {cc : Nat} {c : Call} {x y : Operand} {t : TypeId}
    (hown : w.ownsRow base e s v len flat) (hr : RowR s d w B xs) (hd1 : OneC d) (hop : o.op = .call c) (hcal : c.callee = .builtin .append) (hargs : c.args.toList = [x, y]) (htys : c.argTypes.toList = [t, t])
    (hx : ev F x = v) (hy : ev F y = .slice B xs.length cc) (h1 : appT T t e s b = true) (hs0 : Nat.blt 0 s = true)
    (hbig : (len + xs.length) * b ≤ 140737488355328) (h63 : len + xs.length ≤ 9223372036854775807) (hbase : base ≤ w.heap.size) :
    ∃ A cap w1 news, (execOp (ev F) o).run P w = .ok (.value (.slice A (len + xs.length) cap)) w1 ∧ Elems s d w news xs ∧ w1.ownsRow base e s (.slice A (len + xs.length) cap) (len + xs.length) (flat ++ news) ∧ w.grownBy w1 v.ownBlock ∧ ((Value.slice A (len + xs.length) cap).ownBlock = v.ownBlock ∨ (Value.slice A (len + xs.length) cap).ownBlock = some w.heap.size) := by
  obtain ⟨hu, j, z, hj, hz, hs, hby, hzs⟩ := appT_ok hT h1
  obtain ⟨callee, ⟨args⟩, ⟨tys⟩⟩ := c
  simp only at hcal hargs htys
  subst hcal hargs htys
  cases B with
  | none =>
    have hxs : xs = [] := by
      cases xs with
      | nil => rfl
      | cons a l => obtain ⟨_, _, e, _⟩ := hr.2 0 (by simp); cases e
    subst hxs
    have hform : ∃ A cap, v = .slice A len cap := by
      rcases hown.2 with ⟨rfl, h0⟩ | ⟨g', cap, cur, rfl, _⟩
      · exact ⟨none, 0, by rw [h0]⟩
      · exact ⟨_, cap, rfl⟩
    obtain ⟨A, cap, rfl⟩ := hform
    refine ⟨A, cap, w, [], ?_, Elems.nil .., by simpa using hown, grown_refl _ _, .inl rfl⟩
    have h := run_append_none (P := P) (w := w) base t o.type e j s hu hj _ len flat hown cc
    simp [execOp, hop, resolve, invoke, builtin, hx, hy, h]
  | some ad =>
    obtain ⟨news, hn1, hn2, hn3⟩ := row_flat hr hd1
    obtain ⟨v', w1, hr', h2, h3, _, h5⟩ := run_append_own_at (P := P) w base t o.type e j z s b hu hj hz hs hby hzs (nblt hs0) v len flat hown ad xs.length cc news hn2.1 hn1 hn3 h63 hbig hbase
    have hform : ∃ A cap, v' = .slice A (len + xs.length) cap := by
      rcases h2.2 with ⟨rfl, h0⟩ | ⟨g', cap, cur, rfl, _⟩
      · exact ⟨none, 0, by rw [h0]⟩
      · exact ⟨_, cap, rfl⟩
    obtain ⟨A, cap, rfl⟩ := hform
    refine ⟨A, cap, w1, news, ?_, hn2, h2, h3, h5⟩
    simp [execOp, hop, resolve, invoke, builtin, hx, hy, hr']
theorem wl_apr (hT : TabOk P T) (e s b : Nat) {α : Type} [Inhabited α] {d : Dec α} {base len : Nat} {v : Value} {flat : List Value} {xs : List α} {B : Option Addr} {cc : Nat} {c : Call} {x y : Operand} {t : TypeId}
    (hown : w.ownsRow base e s v len flat) (hr : RowR s d w B xs) (hd1 : OneC d) (hop : o.op = .call c) (hcal : c.callee = .builtin .append) (hargs : c.args.toList = [x, y]) (htys : c.argTypes.toList = [t, t])
    (hx : ev F x = v) (hy : ev F y = .slice B xs.length cc) (h1 : appT T t e s b = true) (hs0 : Nat.blt 0 s = true) (hg : o.guard = none) {dd : Nat} (hd : o.dst = some dd) (hn : Nat.blt dd n = true)
    (hbig : (len + xs.length) * b ≤ 140737488355328) (h63 : len + xs.length ≤ 9223372036854775807) (hbase : base ≤ w.heap.size)
    (k : ∀ A cap w1 news, Elems s d w news xs → w1.ownsRow base e s (.slice A (len + xs.length) cap) (len + xs.length) (flat ++ news) → w.grownBy w1 v.ownBlock → ((Value.slice A (len + xs.length) cap).ownBlock = v.ownBlock ∨ (Value.slice A (len + xs.length) cap).ownBlock = some w.heap.size) →
      wl P n ops rest Q (upd F dd (.slice A (len + xs.length) cap)) w1) : wl P n ops (o :: rest) Q F w := by
  obtain ⟨A, cap, w1, news, hr, h2, h3, h4, h5⟩ := apr_run hT e s b hown hr hd1 hop hcal hargs htys hx hy h1 hs0 hbig h63 hbase
  exact wl_val hg hd hn hr (k A cap w1 news h2 h3 h4 h5)
theorem wa_apr (hT : TabOk P T) (e s b : Nat) {K : Fm → World → Prop} {α : Type} [Inhabited α] {d : Dec α} {base len : Nat} {v : Value} {flat : List Value} {xs : List α} {B : Option Addr} {cc : Nat} {c : Call} {x y : Operand} {t : TypeId}
    (hown : w.ownsRow base e s v len flat) (hr : RowR s d w B xs) (hd1 : OneC d) (hop : o.op = .call c) (hcal : c.callee = .builtin .append) (hargs : c.args.toList = [x, y]) (htys : c.argTypes.toList = [t, t])
    (hx : ev F x = v) (hy : ev F y = .slice B xs.length cc) (h1 : appT T t e s b = true) (hs0 : Nat.blt 0 s = true) {dd : Nat} (hd : o.dst = some dd) (hn : Nat.blt dd n = true)
    (hbig : (len + xs.length) * b ≤ 140737488355328) (h63 : len + xs.length ≤ 9223372036854775807) (hbase : base ≤ w.heap.size)
    (k : ∀ A cap w1 news, Elems s d w news xs → w1.ownsRow base e s (.slice A (len + xs.length) cap) (len + xs.length) (flat ++ news) → w.grownBy w1 v.ownBlock → ((Value.slice A (len + xs.length) cap).ownBlock = v.ownBlock ∨ (Value.slice A (len + xs.length) cap).ownBlock = some w.heap.size) →
      K (upd F dd (.slice A (len + xs.length) cap)) w1) : wa P n o F w K := by
  obtain ⟨A, cap, w1, news, hr, h2, h3, h4, h5⟩ := apr_run hT e s b hown hr hd1 hop hcal hargs htys hx hy h1 hs0 hbig h63 hbase
  exact ⟨_, _, hr, by rw [hd]; exact hn, by rw [hd]; exact k A cap w1 news h2 h3 h4 h5⟩
end
/-! ### an element of a row of the call's own is written -/
theorem Elems.put {α : Type} [Inhabited α] {sz : Nat} {d : Dec α} {w : World} {flat : List Value} {xs : List α} {i k : Nat} {u : Value} {x' : α} (h : Elems sz d w flat xs) (hi : i < xs.length) (hk : k < sz)
    (hx : ∀ cs, cs.length = sz → d w cs xs[i]! → d w (cs.set k u) x') : Elems sz d w (flat.set (i * sz + k) u) (xs.set i x') := by
  refine ⟨by simpa using h.1, fun j hj => ?_⟩
  have hj' : j < xs.length := by simpa using hj
  have hjl : j * sz + sz ≤ flat.length := by rw [h.1, ← Nat.succ_mul]; exact Nat.mul_le_mul_right _ hj'
  by_cases e : j = i
  · subst e
    have e1 : ((flat.set (j * sz + k) u).drop (j * sz)).take sz = ((flat.drop (j * sz)).take sz).set k u := by
      rw [List.drop_set, if_neg (by omega), List.take_set]
      congr 1
      omega
    have e2 : (xs.set j x')[j]! = x' := by rw [getElem!_pos (xs.set j x') j hj]; simp
    rw [e1, e2]
    exact hx _ (by simp; omega) (h.2 j hj')
  · have e1 : ((flat.set (i * sz + k) u).drop (j * sz)).take sz = (flat.drop (j * sz)).take sz := by
      rw [List.drop_set]
      split
      · rfl
      · rename_i hlt
        rw [List.take_set, List.set_eq_of_length_le]
        rcases Nat.lt_or_ge i j with hl | hl
        · have : (i + 1) * sz ≤ j * sz := Nat.mul_le_mul_right _ hl
          rw [Nat.succ_mul] at this
          omega
        · have : (j + 1) * sz ≤ i * sz := Nat.mul_le_mul_right _ (by omega)
          rw [Nat.succ_mul] at this
          simp
          omega
    have e2 : (xs.set i x')[j]! = xs[j]! := by rw [getElem!_pos (xs.set i x') j hj, getElem!_pos xs j hj', List.getElem_set_ne (by omega)]
    rw [e1, e2]
    exact h.2 j hj'
theorem GRow.cur {α : Type} [Inhabited α] {sz : Nat} {d : Dec α} {e : TypeId} {base : Nat} {w : World} {A : Option Addr} {n c : Nat} {xs : List α} {bs : List Nat} (h : GRow sz d e base w (.slice A n c) xs bs) (h0 : 0 < xs.length) :
    ∃ (g : Nat) (cur : List Value), A = some ⟨g, 0, none⟩ ∧ base ≤ g ∧ w.heap[g]? = some (.cells cur.toArray e (0, 0)) ∧ xs.length * sz ≤ cur.length ∧
      ∀ w1 i k u x' bs', i < xs.length → k < sz → Put w w1 g (cur.set (i * sz + k) u) e → (∀ w' cs, (∀ b ∈ bs', w'.heap[b]? = w.heap[b]?) → cs.length = sz → d w' cs xs[i]! → d w' (cs.set k u) x') → (∀ b ∈ bs', (base ≤ b ∧ b < w.heap.size) ∧ b ≠ g) → GRow sz d e base w1 (.slice A n c) (xs.set i x') (bs ++ bs') := by
  obtain ⟨flat, h1, h2⟩ := h.own
  rcases h1.2 with ⟨he, hz⟩ | ⟨g, cap, cur, hv, hbg, hg, hnc, hcm, hcs, htake⟩
  · omega
  have hv' := hv
  injection hv' with e1 e2 e3
  subst e1 e2 e3
  have hcl : xs.length * sz ≤ cur.size := by rw [hcs]; exact Nat.mul_le_mul_right _ hnc
  refine ⟨g, cur.toList, rfl, hbg, by simpa using hg, by simpa using hcl, ?_⟩
  intro w1 i k u x' bs' hi hk hp hx hbs
  have hbne : ∀ b ∈ bs, b ≠ g := fun b hb e => h.ne b hb (by rw [e]; rfl)
  have hall : ∀ b ∈ bs ++ bs', (base ≤ b ∧ b < w.heap.size) ∧ b ≠ g := fun b hb => by
    rcases List.mem_append.1 hb with hb | hb
    · exact ⟨h.lt b hb, hbne b hb⟩
    · exact hbs b hb
  have same : ∀ b ∈ bs ++ bs', w1.heap[b]? = w.heap[b]? := fun b hb => hp.grown.block b (hall b hb).1.2 (by simpa using (hall b hb).2)
  refine ⟨⟨flat.set (i * sz + k) u, ⟨by simpa using h1.1, .inr ⟨g, c, (cur.toList.set (i * sz + k) u).toArray, by simp, hbg, hp.blk, by simpa using hnc, hcm, by simpa using hcs, ?_⟩⟩, fun w' hw' => ?_⟩, fun b hb => ⟨(hall b hb).1.1, by rw [hp.size]; exact (hall b hb).1.2⟩, fun b hb => by simpa [Value.ownBlock] using (hall b hb).2⟩
  · simp only [List.length_set]
    rw [← htake, List.take_set]
  · refine (h2 w' fun b hb => (hw' b (by simp [hb])).trans (same b (by simp [hb]))).put hi hk fun cs hl hd => hx w' cs (fun b hb => (hw' b (by simp [hb])).trans (same b (by simp [hb]))) hl hd
end Go.Proofs.Ytomldckplkecbaa

/- Regions that draw their order, where several operations make blocks: each order that may be is gone through, and all come to one end. -/
namespace Go.Proofs.Ytomldckplkecbaa
open Go.RowKit
set_option linter.unusedVariables false
set_option linter.unusedSimpArgs false
section
variable {P : Program} {ops : Array Oper} {md : Region.Mode} {C : World → Prop}
def runsTo (P : Program) (o : Oper) (a : Act) (w : World) (R : Value → World → Prop) : Prop :=
  (∃ v w', (execOp a.eval o).run P w = .ok (.value v) w' ∧ R v w') ∨
  (∃ f args, (execOp a.eval o).run P w = .ok (.enter f args) w ∧ Calls P f args w fun e w' => ∃ v, e = .returned v ∧ R v w') ∨
  (∃ w', (execOp a.eval o).run P w = .ok .skip w' ∧ R undef w')
theorem runsTo.mono {o : Oper} {a : Act} {w : World} {R R' : Value → World → Prop} (h : runsTo P o a w R) (k : ∀ v w', R v w' → R' v w') : runsTo P o a w R' := by
  rcases h with ⟨v, w', h1, h2⟩ | ⟨f, args, h1, h2⟩ | ⟨w', h1, h2⟩
  · exact .inl ⟨v, w', h1, k _ _ h2⟩
  · exact .inr (.inl ⟨f, args, h1, h2.mono fun e w' ⟨v, he, h3⟩ => ⟨v, he, k _ _ h3⟩⟩)
  · exact .inr (.inr ⟨w', h1, k _ _ h2⟩)
def xUp (P : Program) (C : World → Prop) (o : Oper) (a : Act) (Φ : World → Prop) (K : (World → Prop) → Act → Prop) : Prop :=
  (∃ v, quB P o a C v ∧ K Φ (a.put o.dst v)) ∨
  (∃ Ψ : Value → World → Prop, (∀ v, Stable (Ψ v)) ∧ (∀ w, C w → Φ w → runsTo P o a w fun v w' => C w' ∧ Ψ v w') ∧ ∀ v, K (Ψ v) (a.put o.dst v))
def xOp (P : Program) (ops : Array Oper) (C : World → Prop) (i : Nat) (Φ : World → Prop) (K : (World → Prop) → Act → Prop) (a : Act) : Prop :=
  match ops[i]? with
  | none => K Φ a
  | some o => if Region.wanted o (yielded ops a.tmps) then xUp P C o a Φ K else K Φ (a.put o.dst undef)
def wpX (P : Program) (md : Region.Mode) (ops : Array Oper) (C : World → Prop) (n : Nat) (L : Array Bool → (World → Prop) → Act → Prop) : Nat → Array Bool → (World → Prop) → Act → Prop
  | 0, listed, Φ, a => L listed Φ a
  | f + 1, listed, Φ, a => Region.ready md ops listed ≠ [] ∧ ∀ i ∈ Region.ready md ops listed, i < n ∧ xOp P ops C i Φ (fun Φ' a' => wpX P md ops C n L f (listed.setIfInBounds i true) Φ' a') a
theorem xUp_mono {o : Oper} {a : Act} {Φ : World → Prop} {K K' : (World → Prop) → Act → Prop} (h : ∀ Φ a, K Φ a → K' Φ a) (hh : xUp P C o a Φ K) : xUp P C o a Φ K' := by
  rcases hh with ⟨v, h1, h2⟩ | ⟨Ψ, h1, h2, h3⟩
  · exact .inl ⟨v, h1, h _ _ h2⟩
  · exact .inr ⟨Ψ, h1, h2, fun v => h _ _ (h3 v)⟩
theorem xOp_mono {i : Nat} {a : Act} {Φ : World → Prop} {K K' : (World → Prop) → Act → Prop} (h : ∀ Φ a, K Φ a → K' Φ a) (hh : xOp P ops C i Φ K a) : xOp P ops C i Φ K' a := by
  unfold xOp at *
  split
  · rename_i ho; simp only [ho] at hh; exact h _ _ hh
  · rename_i o ho
    simp only [ho] at hh
    split
    · rename_i hw; simp only [hw, if_true] at hh; exact xUp_mono h hh
    · rename_i hw; simp only [hw] at hh; exact h _ _ hh
theorem wp_of_xUp (hC : Stable C) {o : Oper} {a : Act} {Φ : World → Prop} {K : (World → Prop) → Act → Prop} {K' : Act → World → Prop} {Q' : Exit → Act → World → Prop} {w : World} (hw : C w) (hst : Stable Φ) (hΦ : Φ w)
    (h : ∀ Φ a w', Stable Φ → C w' → Φ w' → K Φ a → K' a w') (hh : xUp P C o a Φ K) : o.wp P a w K' Q' := by
  rcases hh with ⟨v, h1, h2⟩ | ⟨Ψ, h1, h2, h3⟩
  · have h3 := h1 w hw
    unfold Oper.quietAt at h3
    unfold Oper.wp
    generalize (execOp a.eval o).run P w = r at *
    cases r with
    | ok n w' =>
      cases n <;> simp only [Oper.quietUpon] at h3 <;> simp only [Oper.upon]
      case value u =>
        obtain ⟨e1, e2⟩ := h3
        rw [e1, e2]
        exact h _ _ _ hst hw hΦ h2
      case skip =>
        obtain ⟨e1, e2⟩ := h3
        rw [e1, ← e2]
        exact h _ _ _ hst hw hΦ h2
      case enter f args =>
        obtain ⟨e1, hc⟩ := h3
        rw [e1]
        exact hc.mono fun e w'' ⟨he, hw''⟩ => by subst he; exact h _ _ _ hst (hC _ _ hw hw'') (hst _ _ hΦ hw'') h2
    | halt x w' => simp only [Oper.quietUpon] at h3
  · rcases h2 w hw hΦ with ⟨v, w', h4, h5, h6⟩ | ⟨f, args, h4, h5⟩ | ⟨w', h4, h5, h6⟩
    · unfold Oper.wp
      rw [h4]
      exact h _ _ _ (h1 v) h5 h6 (h3 v)
    · unfold Oper.wp
      rw [h4]
      refine h5.mono fun e w'' ⟨v, he, h6, h7⟩ => ?_
      subst he
      exact h _ _ _ (h1 v) h6 h7 (h3 v)
    · unfold Oper.wp
      rw [h4]
      exact h _ _ _ (h1 undef) h5 h6 (h3 undef)
theorem wpOp_of_xOp (hC : Stable C) {i : Nat} {a : Act} {Φ : World → Prop} {K : (World → Prop) → Act → Prop} {K' : Act → World → Prop} {Q' : Exit → Act → World → Prop} {w : World} (hw : C w) (hst : Stable Φ) (hΦ : Φ w)
    (h : ∀ Φ a w', Stable Φ → C w' → Φ w' → K Φ a → K' a w') (hh : xOp P ops C i Φ K a) : wpOp P ops Q' i K' a w := by
  unfold xOp at hh
  unfold wpOp
  split
  · rename_i ho; simp only [ho] at hh; exact h _ _ _ hst hw hΦ hh
  · rename_i o ho
    simp only [ho] at hh
    split
    · rename_i hwn; simp only [hwn, if_true] at hh; exact .inl (wp_of_xUp hC hw hst hΦ h hh)
    · rename_i hwn; simp only [hwn] at hh; exact h _ _ _ hst hw hΦ hh
theorem wpAny_of_X (hC : Stable C) {n g : Nat} {L : Array Bool → (World → Prop) → Act → Prop} {Q' : Exit → Act → World → Prop} (hL : ∀ listed Φ a w, C w → Φ w → L listed Φ a → wpAny P md ops Q' g listed a w) :
    ∀ (f : Nat) (listed : Array Bool) (Φ : World → Prop) (a : Act) (w : World), Stable Φ → C w → Φ w → wpX P md ops C n L f listed Φ a → wpAny P md ops Q' (f + g) listed a w
  | 0, listed, Φ, a, w, _, hw, hΦ, h => by rw [Nat.zero_add]; exact hL _ _ _ _ hw hΦ h
  | f + 1, listed, Φ, a, w, hst, hw, hΦ, h => by
    rw [show f + 1 + g = (f + g) + 1 by omega]
    exact ⟨fun h0 => absurd h0 h.1, fun i hi => wpOp_of_xOp hC hw hst hΦ (fun Φ' a' w' hst' hw' hΦ' h' => wpAny_of_X hC hL f _ Φ' a' w' hst' hw' hΦ' h') (h.2 i hi).2⟩
theorem YieldsB.xOp {i : Nat} {o : Oper} {v : Value} {a : Act} (hi : ops[i]? = some o) (hy : YieldsB P ops C o v a) {Φ : World → Prop} {K : (World → Prop) → Act → Prop} (h : K Φ (a.put o.dst v)) : xOp P ops C i Φ K a := by
  unfold Proofs.Ytomldckplkecbaa.xOp
  simp only [hi]
  rcases hy with ⟨hw, hv⟩ | ⟨hw, rfl⟩
  · simp only [hw, if_true]; exact .inl ⟨v, hv, h⟩
  · simp only [hw, Bool.false_eq_true, if_false]; exact h
theorem xOp_put {j : Nat} {oi oj : Oper} {v : Value} (hj : ops[j]? = some oj) (hap : oi.apart ops oj = true)
    (hsi : ∀ cs b, oi.op ≠ .select cs b) (hsj : ∀ cs b, oj.op ≠ .select cs b) {Φ : World → Prop} {K : (World → Prop) → Act → Prop} {a : Act}
    (hy : YieldsB P ops C oi v a) (h : xOp P ops C j Φ K (a.put oi.dst v)) :
    xOp P ops C j Φ (fun Φ' a' => YieldsB P ops C oi v a' ∧ K Φ' (a'.put oi.dst v)) a := by
  obtain ⟨h1, h2, h3⟩ := Oper.apart_spec hap
  have keep : ∀ (a : Act), YieldsB P ops C oi v a → ∀ u, YieldsB P ops C oi v (a.put oj.dst u) := fun a hy u =>
    hy.of_same (execOp_put oi hsi a oj.dst u h3) (wanted_put oi a oj.dst u h3)
  unfold Proofs.Ytomldckplkecbaa.xOp at *
  simp only [hj] at *
  rw [wanted_put oj a oi.dst v h1] at h
  split
  · rename_i hw
    simp only [hw, if_true] at h
    rcases h with ⟨u, hu, hn⟩ | ⟨Ψ, g1, g2, g3⟩
    · refine .inl ⟨u, fun w hw' => ?_, keep a hy u, by rw [← Act.put_comm a v u h2]; exact hn⟩
      have := hu w hw'
      unfold Oper.quietAt at *
      rwa [execOp_put oj hsj a oi.dst v h1] at this
    · refine .inr ⟨Ψ, g1, fun w hw' hΦ' => ?_, fun u => ⟨keep a hy u, by rw [← Act.put_comm a v u h2]; exact g3 u⟩⟩
      have := g2 w hw' hΦ'
      unfold runsTo at *
      rwa [execOp_put oj hsj a oi.dst v h1] at this
  · rename_i hw
    simp only [hw] at h
    exact ⟨keep a hy _, by rw [← Act.put_comm a v undef h2]; exact h⟩
theorem wpX_first {n i : Nat} {oi : Oper} {v : Value} {L : Array Bool → (World → Prop) → Act → Prop} (hi : ops[i]? = some oi) (hsel : ∀ (j : Nat) (o : Oper) cs b, ops[j]? = some o → o.op ≠ .select cs b)
    (hs : Region.sinkB md ops n = true) (hc : Region.chainB md ops n = true) (hn : n < ops.size) (hin : i < n)
    (hdone : ∀ listed Φ a, L listed Φ a → ∀ j ∈ Region.ready md ops listed, n ≤ j) :
    ∀ (f : Nat) (listed : Array Bool) (Φ : World → Prop) (a : Act), HeadInv md ops n listed →
      (∀ j oj, ops[j]? = some oj → j ≠ i → listed.getD j true = false → (∀ e ∈ oj.after, Region.binds md e = true → e.on ≠ i) → oi.apart ops oj = true) →
      i ∈ Region.ready md ops listed → YieldsB P ops C oi v a →
      wpX P md ops C n L f (listed.setIfInBounds i true) Φ (a.put oi.dst v) → wpX P md ops C n L (f + 1) listed Φ a := by
  intro f
  induction f with
  | zero =>
    intro listed Φ a inv _ hr hy H
    have hun := (mem_ready.1 hr).1
    refine ⟨fun h => (by rw [h] at hr; cases hr), fun j hj => ?_⟩
    have hjn : j < n := by
      rcases Nat.lt_or_ge j n with h | h
      · exact h
      · exact absurd hj (tail_waits hs hc hn inv _ i rfl hin hun j h)
    refine ⟨hjn, ?_⟩
    by_cases hji : j = i
    · subst hji; exact hy.xOp hi H
    · have := hdone _ _ _ H j (ready_mono hj hji)
      omega
  | succ f ih =>
    intro listed Φ a inv hfree hr hy H
    have hun := (mem_ready.1 hr).1
    refine ⟨fun h => (by rw [h] at hr; cases hr), fun j hj => ?_⟩
    have hjn : j < n := by
      rcases Nat.lt_or_ge j n with h | h
      · exact h
      · exact absurd hj (tail_waits hs hc hn inv _ i rfl hin hun j h)
    refine ⟨hjn, ?_⟩
    by_cases hji : j = i
    · subst hji; exact hy.xOp hi H
    · have h1 := (H.2 j (ready_mono hj hji)).2
      obtain ⟨hjun, oj, hoj, hall⟩ := mem_ready.1 hj
      have hnot : ∀ e ∈ oj.after, Region.binds md e = true → e.on ≠ i := fun e he hb heq => by
        have h1 := hall e he hb
        rw [heq, getD_both hun] at h1
        cases h1
      have h2 := xOp_put hoj (hfree j oj hoj hji hjun hnot) (fun cs b => hsel i oi cs b hi) (fun cs b => hsel j oj cs b hoj) hy h1
      have hfree' : ∀ k ok, ops[k]? = some ok → k ≠ i → (listed.setIfInBounds j true).getD k true = false →
          (∀ e ∈ ok.after, Region.binds md e = true → e.on ≠ i) → oi.apart ops ok = true := fun k ok hk hki hun hno => by
        refine hfree k ok hk hki ?_ hno
        by_cases hjk : j = k
        · subst hjk; exact hjun
        · rw [getD_set_ne true hjk] at hun; exact hun
      refine xOp_mono (fun Φ' a' h3 => ih (listed.setIfInBounds j true) Φ' a' (inv.set hj hjn) hfree' (ready_mono hr (Ne.symm hji)) h3.1 ?_) h2
      rw [Array.setIfInBounds_comm _ _ hji]
      exact h3.2

/-- The orders that may be: what is known of them without a world. -/
def exB (md : Region.Mode) (ops : Array Oper) (g n : Nat) : Nat → Array Bool → Bool
  | 0, listed => Region.seqB md ops g n listed
  | f + 1, listed => !(Region.ready md ops listed).isEmpty && (Region.ready md ops listed).all fun i => decide (i < n) && ((ops[i]?).map fun o => o.guard.isNone).getD false && exB md ops g n f (listed.setIfInBounds i true)
def exA (P : Program) (md : Region.Mode) (ops : Array Oper) (C : World → Prop) (T : Act → World → Prop) : Nat → Array Bool → Act → World → Prop
  | 0, _, a, W => T a W
  | f + 1, listed, a, W => ∀ i ∈ Region.ready md ops listed, ∀ o, ops[i]? = some o → runsTo P o a W fun v w2 => C w2 ∧ ∀ W', Below w2.heap.size w2 W' → C W' → exA P md ops C T f (listed.setIfInBounds i true) (a.put o.dst v) W'
theorem wpX_of_ex {g n : Nat} {T : Act → World → Prop} : ∀ (f : Nat) (listed : Array Bool) (Φ : World → Prop) (a : Act), exB md ops g n f listed = true → (∀ W, C W → Φ W → exA P md ops C T f listed a W) →
    wpX P md ops C n (fun listed' Φ' a' => Region.seqB md ops g n listed' = true ∧ ∀ W, C W → Φ' W → T a' W) f listed Φ a
  | 0, listed, Φ, a, hB, h => ⟨hB, h⟩
  | f + 1, listed, Φ, a, hB, h => by
    simp only [exB, Bool.and_eq_true, Bool.not_eq_true', List.isEmpty_eq_false_iff, List.all_eq_true, decide_eq_true_eq] at hB
    refine ⟨hB.1, fun i hi => ?_⟩
    obtain ⟨⟨h1, h2⟩, h3⟩ := hB.2 i hi
    refine ⟨h1, ?_⟩
    cases ho : ops[i]? with
    | none => rw [ho] at h2; simp at h2
    | some o =>
      rw [ho] at h2
      have hg : o.guard = none := by simpa using h2
      unfold Proofs.Ytomldckplkecbaa.xOp
      simp only [ho]
      rw [if_pos (by simp [Region.wanted, hg])]
      refine .inr ⟨fun v W => ∃ w2, Below w2.heap.size w2 W ∧ ∀ W', Below w2.heap.size w2 W' → C W' → exA P md ops C T f (listed.setIfInBounds i true) (a.put o.dst v) W', fun v w w' ⟨w2, h1, h2⟩ hb => ⟨w2, bup h1 hb, h2⟩, fun w hw hΦ => ?_, fun v => wpX_of_ex f _ _ _ h3 fun W hW ⟨w2, h1, h2⟩ => h2 W h1 hW⟩
      exact (h w hw hΦ i hi o ho).mono fun v w2 ⟨h4, h5⟩ => ⟨h4, w2, Below.refl _ _, h5⟩
/-- The heads that read alone, in this order, then f others in any. -/
def permB (md : Region.Mode) (ops : Array Oper) (g n f : Nat) : List Nat → Array Bool → Bool
  | [], listed => exB md ops g n f listed
  | k :: qs, listed => decide (k < n) && (Region.ready md ops listed).contains k && Region.free md ops listed k && permB md ops g n f qs (listed.setIfInBounds k true)
def setAllB : List Nat → Array Bool → Array Bool
  | [], listed => listed
  | k :: qs, listed => setAllB qs (listed.setIfInBounds k true)
def opsAt (ops : Array Oper) : List Nat → List Oper
  | [] => []
  | k :: qs => match ops[k]? with
    | some o => o :: opsAt ops qs
    | none => opsAt ops qs
theorem wpX_perm {n g f : Nat} {T : Act → World → Prop} (hsel : Region.noSelect ops = true) (hs : Region.sinkB md ops n = true) (hc : Region.chainB md ops n = true) (hn : n < ops.size) :
    ∀ (qs : List Nat) (listed : Array Bool) (Φ : World → Prop) (a : Act), HeadInv md ops n listed → permB md ops g n f qs listed = true →
    wpQB P ops C (fun a' => ∀ W, C W → Φ W → exA P md ops C T f (setAllB qs listed) a' W) (opsAt ops qs) a →
    wpX P md ops C n (fun listed' Φ' a' => Region.seqB md ops g n listed' = true ∧ ∀ W, C W → Φ' W → T a' W) (qs.length + f) listed Φ a
  | [], listed, Φ, a, inv, hB, h => by
    rw [List.length_nil, Nat.zero_add]
    exact wpX_of_ex f listed Φ a hB h
  | k :: qs, listed, Φ, a, inv, hB, h => by
    simp only [permB, Bool.and_eq_true, decide_eq_true_eq] at hB
    obtain ⟨⟨⟨hkn, hr⟩, hf⟩, hB'⟩ := hB
    have hr' : k ∈ Region.ready md ops listed := by simpa using hr
    obtain ⟨o, h0⟩ : ∃ o, ops[k]? = some o := ⟨ops[k]'(by omega), by simp⟩
    have e1 : opsAt ops (k :: qs) = o :: opsAt ops qs := by simp [opsAt, h0]
    rw [e1] at h
    have key : ∃ v, YieldsB P ops C o v a ∧ wpQB P ops C (fun a' => ∀ W, C W → Φ W → exA P md ops C T f (setAllB (k :: qs) listed) a' W) (opsAt ops qs) (a.put o.dst v) := by
      unfold wpQB at h
      by_cases hw : Region.wanted o (yielded ops a.tmps) = true
      · rw [if_pos hw] at h
        obtain ⟨v, h1, h2⟩ := h
        exact ⟨v, .inl ⟨hw, h1⟩, h2⟩
      · rw [if_neg hw] at h
        exact ⟨undef, .inr ⟨by simpa using hw, rfl⟩, h⟩
    obtain ⟨v, hy, hK⟩ := key
    have e : (k :: qs).length + f = qs.length + f + 1 := by simp; omega
    rw [e]
    exact wpX_first h0 (Region.noSelect_spec hsel) hs hc hn hkn (fun listed' Φ' a' hL => seqB_ready hL.1) (qs.length + f) listed Φ a inv (Region.free_spec h0 hf) hr' hy
      (wpX_perm hsel hs hc hn qs _ Φ _ (inv.set hr' hkn) hB' hK)
def permAll (ops : Array Oper) (qs : List Nat) (f n : Nat) : Bool :=
  Region.noSelect ops && decide (n < ops.size) && decide (qs.length + f = n) && Region.sinkB .any ops n && Region.chainB .any ops n && permB .any ops (ops.size - n) n f qs (Array.replicate ops.size false)
theorem wp_region_perm {id : Nat} {Q : Exit → Act → World → Prop} {a : Act} {w : World} {l : List Oper} (qs : List Nat) (f n : Nat) (hC : Stable C) (hm : P.follows .mixedOrders = true) (hB : permAll l.toArray qs f n = true) (hCw : C w)
    (h : wpQB P l.toArray C (fun a' => ∀ W, C W → Below w.heap.size w W → exA P .any l.toArray C (wpList P l.toArray Q (l.drop n)) f (setAllB qs (Array.replicate l.toArray.size false)) a' W) (opsAt l.toArray qs) a) : (Code.region id l.toArray true).wp P Q a w := by
  simp only [permAll, Bool.and_eq_true, decide_eq_true_eq] at hB
  obtain ⟨⟨⟨⟨⟨hsel, hn⟩, hqf⟩, hs⟩, hc⟩, hperm⟩ := hB
  have hdl : (l.drop n).length = l.toArray.size - n := by simp
  have inv0 : HeadInv .any l.toArray n (Array.replicate l.toArray.size false) :=
    ⟨by simp, fun j oj _ hl => (by rw [getD_replicate_false] at hl; cases hl), fun t _ ht => getD_in (by simpa using ht) (getD_replicate_false _ _)⟩
  have H := wpX_perm (P := P) (C := C) (md := .any) (g := l.toArray.size - n) (T := wpList P l.toArray Q (l.drop n)) hsel hs hc hn qs _ (fun W => Below w.heap.size w W) a inv0 hperm h
  refine wp_region_any hm ?_
  have hst : Stable (fun W => Below w.heap.size w W) := fun _ _ h h' => bup h h'
  have hΦ : Below w.heap.size w { w with drawn := w.drawn + 1 } := ⟨rfl, rfl, rfl, Nat.le_refl _, fun _ _ => rfl⟩
  have hw' : C { w with drawn := w.drawn + 1 } := hC _ _ hCw ⟨rfl, rfl, rfl, Nat.le_refl _, fun _ _ => rfl⟩
  have := wpAny_of_X hC (Q' := Q) (g := l.toArray.size - n) (L := fun listed' Φ' a' => Region.seqB .any l.toArray (l.toArray.size - n) n listed' = true ∧ ∀ W, C W → Φ' W → wpList P l.toArray Q (l.drop n) a' W) (fun listed Φ a' W hW hΦ hL => by
    have := wpAny_of_seq (md := .any) (Q' := Q) (l.drop n) n listed a' W (fun j => by simp [List.getElem?_drop]) (by rw [hdl]; exact hL.1) (hL.2 W hW hΦ)
    rwa [hdl] at this) _ _ (fun W => Below w.heap.size w W) a _ hst hw' hΦ H
  have e : qs.length + f + (l.toArray.size - n) = l.toArray.size := by omega
  rwa [e] at this
end
/-! ### in the frames -/
section
variable {P : Program} {T : Nat → Option TI} {n : Nat} {Q : Post} {F : Fm} {w : World} {ops : Array Oper} {rest : List Oper} {o : Oper} {K : Fm → World → Prop} {C : World → Prop}
structure wb (P : Program) (n : Nat) (o : Oper) (F : Fm) (w : World) (K : Fm → World → Prop) : Prop where
  dst : dstOk n o.dst = true
  go : (∃ v w', (execOp (ev F) o).run P w = .ok (.value v) w' ∧ K (updO F o.dst v) w') ∨
    (∃ f args, (execOp (ev F) o).run P w = .ok (.enter f args) w ∧ Calls P f args w fun e w' => ∃ v, e = .returned v ∧ K (updO F o.dst v) w') ∨
    (∃ w', (execOp (ev F) o).run P w = .ok .skip w' ∧ K (updO F o.dst undef) w')
theorem wb.runs {a : Act} (h : wb P n o F w K) (ha : Fr a n F) : runsTo P o a w fun v w' => K (updO F o.dst v) w' := by
  unfold runsTo
  rw [ha.eval]
  exact h.go
theorem wb_a (h : wa P n o F w K) : wb P n o F w K := let ⟨v, w2, h1, h2, h3⟩ := h.go; ⟨h2, .inl ⟨v, w2, h1, h3⟩⟩
theorem wb_P (hT : TabOk P T) {v : Value} (h : pureF T o.op F = some v) {d : Nat} (hd : o.dst = some d) (hn : Nat.blt d n = true) (k : K (upd F d v) w) : wb P n o F w K :=
  ⟨dst_some hd hn, .inl ⟨v, w, pure_ok hT h, by rw [hd]; exact k⟩⟩
theorem wb_val {v : Value} {w1 : World} {d : Nat} (hd : o.dst = some d) (hn : Nat.blt d n = true) (hrun : (execOp (ev F) o).run P w = .ok (.value v) w1) (k : K (upd F d v) w1) : wb P n o F w K :=
  ⟨dst_some hd hn, .inl ⟨v, w1, hrun, by rw [hd]; exact k⟩⟩
theorem wb_mk (hT : TabOk P T) (e s b : Nat) {t : TypeId} {x y : Operand} {m : Nat} {i : TI} {z : List Value} (hop : o.op = .makeSlice t x y) (hx : ev F x = .int .i64 m) (hy : ev F y = .int .i64 m) (h1 : appT T t e s b = true) (hi : T e = some i) (hz : i.zero.cells = z.toArray) {d : Nat} (hd : o.dst = some d) (hn : Nat.blt d n = true)
    (hbig : b * m ≤ 281474976710656) (h63 : m ≤ 9223372036854775807)
    (k : ∀ g w1, New w w1 g (List.replicate m z).flatten e → K (upd F d (.slice (some ⟨g, 0, none⟩) m m)) w1) : wb P n o F w K := by
  obtain ⟨hu, j, z', hj, hz', hs, hby, hzs⟩ := appT_ok hT h1
  obtain ⟨j2, hj2, hz2, _, _⟩ := T_i hT hi
  rw [hj] at hj2
  cases hj2
  rw [hz'] at hz2
  cases hz2
  refine wb_val hd hn ?_ (k _ _ (new_alloc w _ e))
  have hbi : ((j.bytes : Int) * (m : Int)) ≤ 281474976710656 := by rw [hby, ← Int.natCast_mul]; omega
  have hr := run_make (P := P) w t e j i.zero hu hj hz' .i64 .i64 m m (by omega) (by omega) hbi (by omega)
  simp only [Int.toNat_natCast] at hr
  have hc : madeCells i.zero.cells (m * j.size) = ((List.replicate m z).flatten).toArray := by
    rw [← zeros_eq z m]
    have hzl : z.length = s := by rw [hz] at hzs; simpa using hzs
    unfold madeCells
    rw [hz, hs, hzl]
    apply Array.ext'
    simp [hzl]
  rw [hc] at hr
  simp [execOp, hop, hx, hy, hr]
theorem wb_C {f : FuncId} {c : Call} {x : Operand} {args : List Value} {R : Ending → World → Prop} (hf : FnOk P f) (hc : Calls P f args.toArray w R) (hop : o.op = .call c) (hcal : c.callee = .value x) (hx : ev F x = .func (.func f) #[] #[]) (hargs : c.args.toList.map (ev F) = args) {d : Nat} (hd : o.dst = some d) (hn : Nat.blt d n = true)
    (k : ∀ e w1, R e w1 → ∃ v, e = .returned v ∧ K (upd F d v) w1) : wb P n o F w K := by
  refine ⟨dst_some hd hn, .inr (.inl ⟨f, args.toArray, ?_, hc.mono fun e w' h => by rw [hd]; exact k e w' h⟩)⟩
  have : c.args.map (ev F) = args.toArray := Array.toList_inj.1 (by rw [Array.toList_map, hargs])
  simp [execOp, hop, resolve, hcal, hx, Deferred.ofValue, this, invoke, run_callFunc hf]
def allL (p : Nat → Prop) : List Nat → Prop
  | [] => True
  | i :: l => p i ∧ allL p l
theorem allL_mem {p : Nat → Prop} : ∀ {l : List Nat}, allL p l → ∀ i ∈ l, p i
  | [], _, i, h => by cases h
  | j :: l, ⟨h1, h2⟩, i, h => by
    rcases List.mem_cons.1 h with rfl | h
    · exact h1
    · exact allL_mem h2 i h
def rdyL (l : List Oper) (listed : List Bool) : List Nat :=
  (List.range l.length).filter fun i => !(listed.getD i true) && match l[i]? with
    | some o => o.after.toList.all fun e => !Region.binds .any e || listed.getD e.on false
    | none => false
theorem rdyL_eq (l : List Oper) (listed : List Bool) : Region.ready .any l.toArray listed.toArray = rdyL l listed := by
  unfold Region.ready rdyL
  have e1 : l.toArray.size = l.length := by simp
  rw [e1]
  congr 1
  funext i
  have e2 : ∀ (d : Bool) (k : Nat), listed.toArray.getD k d = listed.getD k d := fun d k => by simp [Array.getD_eq_getD_getElem?, List.getD_eq_getElem?_getD]
  rw [e2]
  congr 1
  have e3 : l.toArray[i]? = l[i]? := by simp
  rw [e3]
  cases l[i]? with
  | none => rfl
  | some o =>
    simp only [Option.map_some, Option.getD_some]
    rw [← Array.all_toList]
    congr 1
    funext e
    rw [e2]
def setAllL : List Nat → List Bool → List Bool
  | [], listed => listed
  | k :: qs, listed => setAllL qs (listed.set k true)
theorem setAllL_eq : ∀ (qs : List Nat) (listed : List Bool), setAllB qs listed.toArray = (setAllL qs listed).toArray
  | [], _ => rfl
  | k :: qs, listed => by
    simp only [setAllB, setAllL]
    rw [← setAllL_eq qs]
    congr 1
    simp
def opF (P : Program) (n : Nat) (l : List Oper) (i : Nat) (F : Fm) (w : World) (K : Fm → World → Prop) : Prop :=
  match l[i]? with
  | some o => wb P n o F w K
  | none => True
def exF (P : Program) (n : Nat) (l : List Oper) (C : World → Prop) (T : Fm → World → Prop) : Nat → List Bool → Fm → World → Prop
  | 0, _, F, W => T F W
  | f + 1, listed, F, W => allL (fun i => opF P n l i F W fun F2 w2 => C w2 ∧ ∀ W', Below w2.heap.size w2 W' → C W' → exF P n l C T f (listed.set i true) F2 W') (rdyL l listed)
theorem exA_of {l : List Oper} {T : Fm → World → Prop} {T' : Act → World → Prop} (hT' : ∀ a F W, Fr a n F → T F W → T' a W) : ∀ (f : Nat) (listed : List Bool) (a : Act) (F : Fm) (W : World), Fr a n F → exF P n l C T f listed F W → exA P .any l.toArray C T' f listed.toArray a W
  | 0, _, a, F, W, ha, h => hT' a F W ha h
  | f + 1, listed, a, F, W, ha, h => fun i hi o ho => by
    rw [rdyL_eq] at hi
    have h1 := allL_mem h i hi
    unfold opF at h1
    have ho' : l[i]? = some o := by simpa using ho
    rw [ho'] at h1
    refine (h1.runs ha).mono fun v w2 ⟨h3, h4⟩ => ⟨h3, fun W' hW' hC' => ?_⟩
    have := exA_of hT' f _ _ _ W' (ha.put h1.dst v) (h4 W' hW' hC')
    have e : (listed.set i true).toArray = listed.toArray.setIfInBounds i true := by simp
    rwa [e] at this
def opsL (l : List Oper) : List Nat → List Oper
  | [] => []
  | k :: qs => match l[k]? with
    | some o => o :: opsL l qs
    | none => opsL l qs
theorem opsL_eq (l : List Oper) : ∀ qs, opsAt l.toArray qs = opsL l qs
  | [] => rfl
  | k :: qs => by
    have e3 : l.toArray[k]? = l[k]? := by simp
    simp only [opsAt, opsL, e3, opsL_eq l qs]
/-- qs: the heads that read alone; f: how many others come ahead of the tail, which begins at number m. -/
theorem wc_qx {id : Nat} {l : List Oper} (qs : List Nat) (f m : Nat) (hC : Stable C) (hT : TabOk P T) (hm : P.follows .mixedOrders = true) (hB : permAll l.toArray qs f m = true) (hCw : C w)
    (h : runQ P T n l.toArray C (opsL l qs) (fun F' => ∀ w1, C w1 → Below w.heap.size w w1 → exF P n l C (fun F2 W => runG P T n l.toArray (l.drop m) Q F2 W) f (setAllL qs (List.replicate l.length false)) F' w1) F) : wc P n (.region id l.toArray true) Q F w := by
  unfold wc
  intro a ha
  have hq := (run_q hT h).go a ha
  rw [← opsL_eq] at hq
  refine wp_region_perm qs f m hC hm hB hCw (wpQB_mono ?_ hq)
  rintro a' ⟨F', h2, h3⟩ w1 hw1 hb1
  have := exA_of (T' := wpList P l.toArray (lift n Q) (l.drop m)) (T := fun F2 W => runG P T n l.toArray (l.drop m) Q F2 W) (fun a F W ha h => ?_) _ _ _ _ _ h2 (h3 w1 hw1 hb1)
  · rw [← setAllL_eq] at this
    have e : (List.replicate l.length false).toArray = Array.replicate l.toArray.size false := by simp
    rwa [e] at this
  · have := run_l hT h
    unfold wl at this
    exact this _ ha
/-- The region's end is one, whatever its order was. -/
theorem wc_cutR {X : Type} (S : X → List (Nat × Value)) (R : X → World → Prop) {c : Code} (h : wc P n c ⟨fun F' w' => ∃ x', holds F' (S x') ∧ R x' w', fun _ _ => False, fun _ _ _ => False⟩ F w) (k : ∀ x G w, R x w → Q.n (upds G (S x)) w) : wc P n c Q F w :=
  wc_mono h (fun F' w' ⟨x', h1, h2⟩ => by have := k x' F' w' h2; rwa [upds_of_holds h1] at this) (fun _ _ h => h.elim) (fun _ _ _ h => h.elim)
end
end Go.Proofs.Ytomldckplkecbaa

/- The orders once more, where operations have guards. -/
namespace Go.Proofs.Ytomldckplkecbaa
open Go.RowKit
set_option linter.unusedVariables false
set_option linter.unusedSimpArgs false
section
variable {P : Program} {ops : Array Oper} {md : Region.Mode} {C : World → Prop}
def exB2 (md : Region.Mode) (ops : Array Oper) (g n : Nat) : Nat → Array Bool → Bool
  | 0, listed => Region.seqB md ops g n listed
  | f + 1, listed => !(Region.ready md ops listed).isEmpty && (Region.ready md ops listed).all fun i => decide (i < n) && (ops[i]?).isSome && exB2 md ops g n f (listed.setIfInBounds i true)
def exA2 (P : Program) (md : Region.Mode) (ops : Array Oper) (C : World → Prop) (T : Act → World → Prop) : Nat → Array Bool → Act → World → Prop
  | 0, _, a, W => T a W
  | f + 1, listed, a, W => ∀ i ∈ Region.ready md ops listed, ∀ o, ops[i]? = some o →
    if Region.wanted o (yielded ops a.tmps) = true then runsTo P o a W fun v w2 => C w2 ∧ ∀ W', Below w2.heap.size w2 W' → C W' → exA2 P md ops C T f (listed.setIfInBounds i true) (a.put o.dst v) W'
    else exA2 P md ops C T f (listed.setIfInBounds i true) (a.put o.dst undef) W
theorem wpX_of_ex2 {g n : Nat} {T : Act → World → Prop} : ∀ (f : Nat) (listed : Array Bool) (Φ : World → Prop) (a : Act), exB2 md ops g n f listed = true → (∀ W, C W → Φ W → exA2 P md ops C T f listed a W) →
    wpX P md ops C n (fun listed' Φ' a' => Region.seqB md ops g n listed' = true ∧ ∀ W, C W → Φ' W → T a' W) f listed Φ a
  | 0, listed, Φ, a, hB, h => ⟨hB, h⟩
  | f + 1, listed, Φ, a, hB, h => by
    simp only [exB2, Bool.and_eq_true, Bool.not_eq_true', List.isEmpty_eq_false_iff, List.all_eq_true, decide_eq_true_eq] at hB
    refine ⟨hB.1, fun i hi => ?_⟩
    obtain ⟨⟨h1, h2⟩, h3⟩ := hB.2 i hi
    refine ⟨h1, ?_⟩
    cases ho : ops[i]? with
    | none => rw [ho] at h2; simp at h2
    | some o =>
      unfold Proofs.Ytomldckplkecbaa.xOp
      simp only [ho]
      by_cases hw : Region.wanted o (yielded ops a.tmps) = true
      · rw [if_pos hw]
        refine .inr ⟨fun v W => ∃ w2, Below w2.heap.size w2 W ∧ ∀ W', Below w2.heap.size w2 W' → C W' → exA2 P md ops C T f (listed.setIfInBounds i true) (a.put o.dst v) W', fun v w w' ⟨w2, h1, h2⟩ hb => ⟨w2, bup h1 hb, h2⟩, fun w hwc hΦ => ?_, fun v => wpX_of_ex2 f _ _ _ h3 fun W hW ⟨w2, h1, h2⟩ => h2 W h1 hW⟩
        have := h w hwc hΦ i hi o ho
        rw [if_pos hw] at this
        exact this.mono fun v w2 ⟨h4, h5⟩ => ⟨h4, w2, Below.refl _ _, h5⟩
      · rw [if_neg hw]
        refine wpX_of_ex2 f _ _ _ h3 fun W hW hΦ => ?_
        have := h W hW hΦ i hi o ho
        rwa [if_neg hw] at this
def permB2 (md : Region.Mode) (ops : Array Oper) (g n f : Nat) : List Nat → Array Bool → Bool
  | [], listed => exB2 md ops g n f listed
  | k :: qs, listed => decide (k < n) && (Region.ready md ops listed).contains k && Region.free md ops listed k && permB2 md ops g n f qs (listed.setIfInBounds k true)
theorem wpX_perm2 {n g f : Nat} {T : Act → World → Prop} (hsel : Region.noSelect ops = true) (hs : Region.sinkB md ops n = true) (hc : Region.chainB md ops n = true) (hn : n < ops.size) :
    ∀ (qs : List Nat) (listed : Array Bool) (Φ : World → Prop) (a : Act), HeadInv md ops n listed → permB2 md ops g n f qs listed = true →
    wpQB P ops C (fun a' => ∀ W, C W → Φ W → exA2 P md ops C T f (setAllB qs listed) a' W) (opsAt ops qs) a →
    wpX P md ops C n (fun listed' Φ' a' => Region.seqB md ops g n listed' = true ∧ ∀ W, C W → Φ' W → T a' W) (qs.length + f) listed Φ a
  | [], listed, Φ, a, inv, hB, h => by
    rw [List.length_nil, Nat.zero_add]
    exact wpX_of_ex2 f listed Φ a hB h
  | k :: qs, listed, Φ, a, inv, hB, h => by
    simp only [permB2, Bool.and_eq_true, decide_eq_true_eq] at hB
    obtain ⟨⟨⟨hkn, hr⟩, hf⟩, hB'⟩ := hB
    have hr' : k ∈ Region.ready md ops listed := by simpa using hr
    obtain ⟨o, h0⟩ : ∃ o, ops[k]? = some o := ⟨ops[k]'(by omega), by simp⟩
    have e1 : opsAt ops (k :: qs) = o :: opsAt ops qs := by simp [opsAt, h0]
    rw [e1] at h
    have key : ∃ v, YieldsB P ops C o v a ∧ wpQB P ops C (fun a' => ∀ W, C W → Φ W → exA2 P md ops C T f (setAllB (k :: qs) listed) a' W) (opsAt ops qs) (a.put o.dst v) := by
      unfold wpQB at h
      by_cases hw : Region.wanted o (yielded ops a.tmps) = true
      · rw [if_pos hw] at h
        obtain ⟨v, h1, h2⟩ := h
        exact ⟨v, .inl ⟨hw, h1⟩, h2⟩
      · rw [if_neg hw] at h
        exact ⟨undef, .inr ⟨by simpa using hw, rfl⟩, h⟩
    obtain ⟨v, hy, hK⟩ := key
    have e : (k :: qs).length + f = qs.length + f + 1 := by simp; omega
    rw [e]
    exact wpX_first h0 (Region.noSelect_spec hsel) hs hc hn hkn (fun listed' Φ' a' hL => seqB_ready hL.1) (qs.length + f) listed Φ a inv (Region.free_spec h0 hf) hr' hy
      (wpX_perm2 hsel hs hc hn qs _ Φ _ (inv.set hr' hkn) hB' hK)
def permAll2 (ops : Array Oper) (qs : List Nat) (f n : Nat) : Bool :=
  Region.noSelect ops && decide (n < ops.size) && decide (qs.length + f = n) && Region.sinkB .any ops n && Region.chainB .any ops n && permB2 .any ops (ops.size - n) n f qs (Array.replicate ops.size false)
theorem wp_region_perm2 {id : Nat} {Q : Exit → Act → World → Prop} {a : Act} {w : World} {l : List Oper} (qs : List Nat) (f n : Nat) (hC : Stable C) (hm : P.follows .mixedOrders = true) (hB : permAll2 l.toArray qs f n = true) (hCw : C w)
    (h : wpQB P l.toArray C (fun a' => ∀ W, C W → Below w.heap.size w W → exA2 P .any l.toArray C (wpList P l.toArray Q (l.drop n)) f (setAllB qs (Array.replicate l.toArray.size false)) a' W) (opsAt l.toArray qs) a) : (Code.region id l.toArray true).wp P Q a w := by
  simp only [permAll2, Bool.and_eq_true, decide_eq_true_eq] at hB
  obtain ⟨⟨⟨⟨⟨hsel, hn⟩, hqf⟩, hs⟩, hc⟩, hperm⟩ := hB
  have hdl : (l.drop n).length = l.toArray.size - n := by simp
  have inv0 : HeadInv .any l.toArray n (Array.replicate l.toArray.size false) :=
    ⟨by simp, fun j oj _ hl => (by rw [getD_replicate_false] at hl; cases hl), fun t _ ht => getD_in (by simpa using ht) (getD_replicate_false _ _)⟩
  have H := wpX_perm2 (P := P) (C := C) (md := .any) (g := l.toArray.size - n) (T := wpList P l.toArray Q (l.drop n)) hsel hs hc hn qs _ (fun W => Below w.heap.size w W) a inv0 hperm h
  refine wp_region_any hm ?_
  have hst : Stable (fun W => Below w.heap.size w W) := fun _ _ h h' => bup h h'
  have hΦ : Below w.heap.size w { w with drawn := w.drawn + 1 } := ⟨rfl, rfl, rfl, Nat.le_refl _, fun _ _ => rfl⟩
  have hw' : C { w with drawn := w.drawn + 1 } := hC _ _ hCw ⟨rfl, rfl, rfl, Nat.le_refl _, fun _ _ => rfl⟩
  have := wpAny_of_X hC (Q' := Q) (g := l.toArray.size - n) (L := fun listed' Φ' a' => Region.seqB .any l.toArray (l.toArray.size - n) n listed' = true ∧ ∀ W, C W → Φ' W → wpList P l.toArray Q (l.drop n) a' W) (fun listed Φ a' W hW hΦ hL => by
    have := wpAny_of_seq (md := .any) (Q' := Q) (l.drop n) n listed a' W (fun j => by simp [List.getElem?_drop]) (by rw [hdl]; exact hL.1) (hL.2 W hW hΦ)
    rwa [hdl] at this) _ _ (fun W => Below w.heap.size w W) a _ hst hw' hΦ H
  have e : qs.length + f + (l.toArray.size - n) = l.toArray.size := by omega
  rwa [e] at this
end
section
variable {P : Program} {T : Nat → Option TI} {n : Nat} {Q : Post} {F : Fm} {w : World} {ops : Array Oper} {o : Oper} {C : World → Prop}
def opF2 (P : Program) (n : Nat) (l : List Oper) (i : Nat) (F : Fm) (w : World) (K Ku : Fm → World → Prop) : Prop :=
  match l[i]? with
  | none => True
  | some o => match o.guard with
    | none => wb P n o F w K
    | some (j, b) => match l[j]? with
      | none => False
      | some oj => match oj.dst, o.dst with
        | some t, some d => bif Nat.blt t n && Nat.blt d n then (match F t with
          | .bool c => gs c (match b with | true => wb P n (ung o) F w K | false => Ku (upd F d undef) w) (match b with | true => Ku (upd F d undef) w | false => wb P n (ung o) F w K)
          | _ => False) else False
        | _, _ => False
def exF2 (P : Program) (n : Nat) (l : List Oper) (C : World → Prop) (T : Fm → World → Prop) : Nat → List Bool → Fm → World → Prop
  | 0, _, F, W => T F W
  | f + 1, listed, F, W => allL (fun i => opF2 P n l i F W (fun F2 w2 => C w2 ∧ ∀ W', Below w2.heap.size w2 W' → C W' → exF2 P n l C T f (listed.set i true) F2 W') fun F2 W2 => exF2 P n l C T f (listed.set i true) F2 W2) (rdyL l listed)
theorem wanted_eq {l : List Oper} {o oj : Oper} {j : Nat} {b c : Bool} {t : Tmp} {a : Act} (ha : Fr a n F) (hg : o.guard = some (j, b)) (hj : l[j]? = some oj) (ht : oj.dst = some t) (hb : F t = .bool c) (hn : Nat.blt t n = true) : Region.wanted o (yielded l.toArray a.tmps) = (c == b) := by
  have hlt : t < a.tmps.size := by rw [ha.size]; exact nblt hn
  have h1 := ha.get t
  rw [hb, Array.getD_eq_getD_getElem?, Array.getElem?_eq_getElem hlt] at h1
  have hj' : l.toArray[j]? = some oj := by simpa using hj
  simp only [Region.wanted, hg, yielded, hj', Option.bind_some, ht, Array.getElem?_eq_getElem hlt]
  simp at h1
  simp [h1]
theorem runs_ung {a : Act} {R : Value → World → Prop} (h : runsTo P (ung o) a w R) : runsTo P o a w R := h
theorem exA2_of {l : List Oper} {T : Fm → World → Prop} {T' : Act → World → Prop} (hT' : ∀ a F W, Fr a n F → T F W → T' a W) : ∀ (f : Nat) (listed : List Bool) (a : Act) (F : Fm) (W : World), Fr a n F → exF2 P n l C T f listed F W → exA2 P .any l.toArray C T' f listed.toArray a W
  | 0, _, a, F, W, ha, h => hT' a F W ha h
  | f + 1, listed, a, F, W, ha, h => fun i hi o ho => by
    rw [rdyL_eq] at hi
    have h1 := allL_mem h i hi
    unfold opF2 at h1
    have ho' : l[i]? = some o := by simpa using ho
    rw [ho'] at h1
    have e : (listed.set i true).toArray = listed.toArray.setIfInBounds i true := by simp
    have fin : ∀ {o' : Oper}, o'.dst = o.dst → wb P n o' F W (fun F2 w2 => C w2 ∧ ∀ W', Below w2.heap.size w2 W' → C W' → exF2 P n l C T f (listed.set i true) F2 W') → runsTo P o' a W fun v w2 => C w2 ∧ ∀ W', Below w2.heap.size w2 W' → C W' → exA2 P .any l.toArray C T' f (listed.toArray.setIfInBounds i true) (a.put o.dst v) W' := fun {o'} he hw => by
      refine (hw.runs ha).mono fun v w2 ⟨h3, h4⟩ => ⟨h3, fun W' hW' hC' => ?_⟩
      have hd : dstOk n o.dst = true := by rw [← he]; exact hw.dst
      rw [he] at h4
      have := exA2_of hT' f _ _ _ W' (ha.put hd v) (h4 W' hW' hC')
      rwa [e] at this
    cases hg : o.guard with
    | none =>
      simp only [hg] at h1
      rw [if_pos (by simp [Region.wanted, hg])]
      exact fin rfl h1
    | some jb =>
      obtain ⟨j, b⟩ := jb
      simp only [hg] at h1
      cases hj : l[j]? with
      | none => rw [hj] at h1; exact h1.elim
      | some oj =>
        rw [hj] at h1
        simp only at h1
        cases ht : oj.dst with
        | none => rw [ht] at h1; exact h1.elim
        | some t =>
          cases hd : o.dst with
          | none => rw [ht, hd] at h1; exact h1.elim
          | some d =>
            rw [ht, hd] at h1
            simp only at h1
            cases hb : (Nat.blt t n && Nat.blt d n) with
            | false => rw [hb] at h1; exact h1.elim
            | true =>
              rw [hb] at h1
              simp only [cond_true] at h1
              have hbb := Bool.and_eq_true_iff.1 hb
              cases hv : F t <;> rw [hv] at h1 <;> try exact h1.elim
              rename_i c
              have hw := wanted_eq ha hg hj ht hv hbb.1
              rw [hw]
              have un : exF2 P n l C T f (listed.set i true) (upd F d undef) W → exA2 P .any l.toArray C T' f (listed.toArray.setIfInBounds i true) (a.put (some d) undef) W := fun hk => by
                have h5 := ha.put (d := some d) (by exact hbb.2) undef
                have := exA2_of hT' f _ _ _ W h5 hk
                rwa [e] at this
              have fn := fin (o' := ung o) rfl
              rw [hd] at fn
              cases c <;> cases b <;> simp only [gs] at h1
              · rw [if_pos (by decide)]; exact runs_ung (fn h1)
              · rw [if_neg (by decide)]; exact un h1
              · rw [if_neg (by decide)]; exact un h1
              · rw [if_pos (by decide)]; exact runs_ung (fn h1)
theorem wc_qg {id : Nat} {l : List Oper} (qs : List Nat) (f m : Nat) (hC : Stable C) (hT : TabOk P T) (hm : P.follows .mixedOrders = true) (hB : permAll2 l.toArray qs f m = true) (hCw : C w)
    (h : runQ P T n l.toArray C (opsL l qs) (fun F' => ∀ w1, C w1 → Below w.heap.size w w1 → exF2 P n l C (fun F2 W => runG P T n l.toArray (l.drop m) Q F2 W) f (setAllL qs (List.replicate l.length false)) F' w1) F) : wc P n (.region id l.toArray true) Q F w := by
  unfold wc
  intro a ha
  have hq := (run_q hT h).go a ha
  rw [← opsL_eq] at hq
  refine wp_region_perm2 qs f m hC hm hB hCw (wpQB_mono ?_ hq)
  rintro a' ⟨F', h2, h3⟩ w1 hw1 hb1
  have := exA2_of (T' := wpList P l.toArray (lift n Q) (l.drop m)) (T := fun F2 W => runG P T n l.toArray (l.drop m) Q F2 W) (fun a F W ha h => ?_) _ _ _ _ _ h2 (h3 w1 hw1 hb1)
  · rw [← setAllL_eq] at this
    have e : (List.replicate l.length false).toArray = Array.replicate l.toArray.size false := by simp
    rwa [e] at this
  · have := run_l hT h
    unfold wl at this
    exact this _ ha
end
end Go.Proofs.Ytomldckplkecbaa

/- Rows whose elements look at elder blocks; loads in drawn regions with several makes. -/
namespace Go.Proofs.Ytomldckplkecbaa
open Go.RowKit
set_option linter.unusedVariables false
set_option linter.unusedSimpArgs false
/-- A row of the call's own whose elements look at elder blocks alone. -/
structure LRow {α : Type} [Inhabited α] (sz : Nat) (d : Dec α) (e : TypeId) (base : Nat) (w0 w : World) (v : Value) (xs : List α) : Prop where
  own : ∃ flat, w.ownsRow base e sz v xs.length flat ∧ ∀ w', Below w0.heap.size w0 w' → Elems sz d w' flat xs
section
variable {α : Type} [Inhabited α] {sz : Nat} {d : Dec α} {e : TypeId} {base : Nat} {w0 w w1 : World} {v v' : Value} {xs : List α}
theorem LRow.nil (sz : Nat) (d : Dec α) (e : TypeId) (base : Nat) (w0 w : World) : LRow sz d e base w0 w (.slice none 0 0) ([] : List α) := ⟨[], own_nil .., fun _ _ => Elems.nil ..⟩
theorem LRow.up (h : LRow sz d e base w0 w v xs) (hb : Below w.heap.size w w1) : LRow sz d e base w0 w1 v xs := by
  obtain ⟨flat, h1, h2⟩ := h.own
  exact ⟨flat, h1.kept (grown_of hb) (Classical.em _), h2⟩
theorem LRow.row (h : LRow sz d e base w0 w v xs) (hb : Below w0.heap.size w0 w) : ∃ A c, v = .slice A xs.length c ∧ xs.length ≤ c ∧ RowR sz d w A xs := by
  obtain ⟨flat, h1, h2⟩ := h.own
  exact row_of_own h1 rfl (h2 w hb)
theorem LRow.rowAt {A : Option Addr} {n c : Nat} (h : LRow sz d e base w0 w (.slice A n c) xs) (hb : Below w0.heap.size w0 w) : RowR sz d w A xs := by
  obtain ⟨A', c', e1, _, h2⟩ := h.row hb
  injection e1 with e1 _ _
  subst e1
  exact h2
end
section
variable {P : Program} {T : Nat → Option TI} {n : Nat} {F : Fm} {w : World} {o : Oper} {K : Fm → World → Prop}
theorem wb_L (hT : TabOk P T) {t : TypeId} {x : Operand} {a : Addr} {v : Value} (hop : o.op = .load t x) (hx : ev F x = .pointer (some a)) (h1 : oneT T t = true) {d : Nat} (hd : o.dst = some d) (hn : Nat.blt d n = true) (hc : w.cell? a = some v) (k : K (upd F d v) w) : wb P n o F w K :=
  wb_val hd hn (by simp [execOp, hop, hx, Instr.loadAt, Instr.sureAddr, run_load_one hT h1 hc]) k
theorem wb_Lg (hT : TabOk P T) {t t' : TypeId} {x : Operand} {g off : Nat} {cs : Array Value} {fr : Nat × Nat} {v : Value} (hb : w.heap[g]? = some (.cells cs t' fr)) (hop : o.op = .load t x) (hx : ev F x = .pointer (some ⟨g, off, none⟩)) (h1 : oneT T t = true) {d : Nat} (hd : o.dst = some d) (hn : Nat.blt d n = true) (hv : cs[off]? = some v) (k : K (upd F d v) w) : wb P n o F w K :=
  wb_L hT hop hx h1 hd hn (cell_blk hb hv) k
theorem wb_Lag (hT : TabOk P T) {t t' : TypeId} {x : Operand} {g : Nat} {cs : List Value} {fr : Nat × Nat} (hb : w.heap[g]? = some (.cells cs.toArray t' fr)) (hop : o.op = .load t x) (hx : ev F x = .pointer (some ⟨g, 0, none⟩)) (h1 : aggT T t cs.length = true) {d : Nat} (hd : o.dst = some d) (hn : Nat.blt d n = true) (k : K (upd F d (.agg cs.toArray)) w) : wb P n o F w K := by
  refine wb_val hd hn ?_ k
  have h2 := aggT_run (P := P) (w := w) hT h1
  have h3 := run_loadCells (P := P) cs 0 #[] (cellsAt_blk hb cs 0 0 (by simp))
  simp [execOp, hop, hx, Instr.loadAt, Instr.sureAddr, loadVar, h2, loadCells, h3]
theorem wb_add {x y : Operand} {xt yt : TypeId} {a b : Int} (hop : o.op = .binOp .add xt x y yt) (hx : ev F x = .int .i64 a) (hy : ev F y = .int .i64 b) {d : Nat} (hd : o.dst = some d) (hn : Nat.blt d n = true) (h1 : -9223372036854775808 ≤ a + b) (h2 : a + b ≤ 9223372036854775807) (k : K (upd F d (.int .i64 (a + b))) w) : wb P n o F w K :=
  wb_val hd hn (by simp [execOp, hop, hx, hy, eqGuard, binOp, Op.intArith, wrap_in h1 h2]) k
end
end Go.Proofs.Ytomldckplkecbaa
