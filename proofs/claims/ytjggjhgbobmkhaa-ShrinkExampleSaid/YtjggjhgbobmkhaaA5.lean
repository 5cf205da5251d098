/- Several texts of one claim in one file: E8 E9 EX U0 EY PM EM. -/
import Derived.Test.YtjggjhgbobmkhaaA4
import Derived.Laws.CopyRow
/- Functions that capture, the greater of two, functions without a result, elements written in place. -/
namespace Go.Proofs.Ytjggjhgbobmkhaa
open Go.RowKit
set_option linter.unusedVariables false
set_option linter.unusedSimpArgs false
section
variable {P : Program} {T : Nat → Option TI} {n : Nat} {Q : Post} {F : Fm} {w : World} {ops : Array Oper} {rest : List Oper} {o : Oper} {K : Fm → Prop} {C : World → Prop}
theorem wl_mf {fn : Fn} {first caps : Array Operand} {fs cs : List Value} (hop : o.op = .makeFunc fn first caps) (hf : first.toList.map (ev F) = fs) (hc : caps.toList.map (ev F) = cs) (hg : o.guard = none) {d : Nat} (hd : o.dst = some d) (hn : Nat.blt d n = true)
    (k : wl P n ops rest Q (upd F d (.func fn fs.toArray cs.toArray)) w) : wl P n ops (o :: rest) Q F w := by
  refine wl_val hg hd hn ?_ k
  have e1 : first.map (ev F) = fs.toArray := Array.toList_inj.1 (by rw [Array.toList_map, hf])
  have e2 : caps.map (ev F) = cs.toArray := Array.toList_inj.1 (by rw [Array.toList_map, hc])
  simp [execOp, hop, Instr.makeFunc, e1, e2]
/-- A function value that has captured variables is called. -/
theorem wl_CF {f : FuncId} {c : Call} {x : Operand} {first args caps : List Value} {R : Ending → World → Prop} (hf : FnOk P f) (hc : Calls P f (first ++ args ++ caps).toArray w R) (hop : o.op = .call c) (hcal : c.callee = .value x) (hx : ev F x = .func (.func f) first.toArray caps.toArray) (hargs : c.args.toList.map (ev F) = args) (hg : o.guard = none) {d : Nat} (hd : o.dst = some d) (hn : Nat.blt d n = true)
    (k : ∀ e w1, R e w1 → ∃ v, e = .returned v ∧ wl P n ops rest Q (upd F d v) w1) : wl P n ops (o :: rest) Q F w := by
  refine wl_ent hg hd hn ?_ hc k
  have : c.args.map (ev F) = args.toArray := Array.toList_inj.1 (by rw [Array.toList_map, hargs])
  have e : (first ++ args ++ caps).toArray = first.toArray ++ args.toArray ++ caps.toArray := by simp
  rw [e]
  simp [execOp, hop, resolve, hcal, hx, Deferred.ofValue, this, invoke, run_callFunc hf]
theorem max_run {c : Call} {x y : Operand} {ki : IntKind} {a b : Int} (hop : o.op = .call c) (hcal : c.callee = .builtin .max) (hargs : c.args.toList = [x, y]) (hx : ev F x = .int ki a) (hy : ev F y = .int ki b) : (execOp (ev F) o).run P w = .ok (.value (.int ki (if b > a then b else a))) w := by
  obtain ⟨callee, ⟨args⟩, tys⟩ := c
  simp only at hcal hargs
  subst hcal hargs
  simp [execOp, hop, resolve, invoke, builtin, Builtin.max_, Builtin.max2, hx, hy]
theorem wl_max {c : Call} {x y : Operand} {ki : IntKind} {a b : Int} (hop : o.op = .call c) (hcal : c.callee = .builtin .max) (hargs : c.args.toList = [x, y]) (hx : ev F x = .int ki a) (hy : ev F y = .int ki b) (hg : o.guard = none) {d : Nat} (hd : o.dst = some d) (hn : Nat.blt d n = true)
    (k : ∀ m, m = (if b > a then b else a) → wl P n ops rest Q (upd F d (.int ki m)) w) : wl P n ops (o :: rest) Q F w := wl_val hg hd hn (max_run hop hcal hargs hx hy) (k _ rfl)
/-- An element of a block of one's own is written. -/
theorem wl_Se (hT : TabOk P T) {t t' : TypeId} {x y : Operand} {i : TI} {g j : Nat} {cs : List Value} {v : Value} (hb : w.heap[g]? = some (.cells cs.toArray t' (0, 0))) (hop : o.op = .store t x y) (hx : ev F x = .pointer (some ((⟨g, 0, none⟩ : Addr).add j))) (hy : ev F y = v)
    (hi : T t = some i) (h1 : i.size = 1) (hv : v.oneCell' = true) (hoff : j < cs.length) (hg : o.guard = none) (hd : o.dst = none)
    (k : ∀ w1, Put w w1 g (cs.set j v) t' → wl P n ops rest Q F w1) : wl P n ops (o :: rest) Q F w :=
  wl_S (off := j) hT hb hop (by rw [hx, add_zero]) hy hi h1 hv hoff hg hd k
theorem fin0 {fn : Func} {R : Ending → World → Prop} (hr : fn.results = #[]) (h : R (.returned (.tuple #[])) w) : Fin P fn R F w := by
  unfold Fin retQ
  intro tmps ht
  refine ⟨.tuple #[], ?_, h⟩
  unfold results
  simp [hr]
end
end Go.Proofs.Ytjggjhgbobmkhaa

/- Rows appended onto rows; rows of the call's own, written in place. -/
namespace Go.Proofs.Ytjggjhgbobmkhaa
open Go.RowKit
set_option linter.unusedVariables false
set_option linter.unusedSimpArgs false
theorem take_next {α : Type} [Inhabited α] {xs : List α} {i : Nat} (h : i < xs.length) : xs.take (i + 1) = xs.take i ++ [xs[i]!] := by
  rw [getElem!_pos xs i h]
  simp
/-- What is said of one cell each. -/
def OneC {α : Type} (d : Dec α) : Prop := ∀ w cs x, d w cs x → ∀ u ∈ cs, u.oneCell' = true
theorem one_I (k : IntKind) : OneC (dI k) := fun w cs x h u hu => by
  rw [h.1] at hu
  simp at hu
  subst hu
  rfl
theorem row_flat {α : Type} [Inhabited α] {sz : Nat} {d : Dec α} {w : World} {ad : Addr} {xs : List α} (h : RowR sz d w (some ad) xs) (hd : OneC d) :
    ∃ flat, (∀ j u, flat[j]? = some u → w.cell? (ad.add j) = some u) ∧ Elems sz d w flat xs ∧ ∀ u ∈ flat, u.oneCell' = true := by
  have key : ∀ k, k ≤ xs.length → ∃ flat, (∀ j u, flat[j]? = some u → w.cell? (ad.add j) = some u) ∧ Elems sz d w flat (xs.take k) ∧ ∀ u ∈ flat, u.oneCell' = true := by
    intro k
    induction k with
    | zero => exact fun _ => ⟨[], by simp, by simpa using Elems.nil .., by simp⟩
    | succ k ih =>
      intro hk
      obtain ⟨flat, h1, h2, h3⟩ := ih (by omega)
      obtain ⟨ad', cs, e, hl, hc, hx⟩ := h.2 k (by omega)
      cases e
      refine ⟨flat ++ cs, fun j u hu => ?_, ?_, ?_⟩
      · rcases Nat.lt_or_ge j flat.length with hj | hj
        · rw [List.getElem?_append_left hj] at hu
          exact h1 j u hu
        · rw [List.getElem?_append_right hj] at hu
          have hfl := h2.1
          rw [List.length_take, Nat.min_eq_left (by omega)] at hfl
          have := hc (j - flat.length) u hu
          rwa [show k * sz + (j - flat.length) = j by omega] at this
      · rw [take_next (by omega)]
        exact h2.push hl hx
      · intro u hu
        rcases List.mem_append.1 hu with hu | hu
        · exact h3 u hu
        · exact hd _ _ _ hx u hu
  obtain ⟨flat, h1, h2, h3⟩ := key xs.length (Nat.le_refl _)
  rw [List.take_length] at h2
  exact ⟨flat, h1, h2, h3⟩
section
variable {P : Program} {T : Nat → Option TI} {n : Nat} {Q : Post} {F : Fm} {w : World} {ops : Array Oper} {rest : List Oper} {o : Oper} {K : Fm → Prop} {C : World → Prop}
theorem run_append_none (base : Nat) (t ty e : TypeId) (i : TypeInfo) (size : Nat) (ht : P.underlying t = some (.slice e)) (hi : P.info? e = some i)
    (v : Value) (n : Nat) (xs : List Value) (hown : w.ownsRow base e size v n xs) (cc : Nat) :
    (Builtin.append_ #[t, t] ty #[v, .slice none 0 cc]).run P w = .ok v w := by
  rcases hown.2 with ⟨rfl, rfl⟩ | ⟨g, cap, cur, rfl, _, _, hnc, _⟩
  · simp [Builtin.append_, run_underlying ht, sizeOf, typeInfo, hi, Builtin.lenOf, Builtin.firstCells]
  · simp [Builtin.append_, run_underlying ht, sizeOf, typeInfo, hi, Builtin.lenOf, Builtin.firstCells, hnc, storeCells]
/-- append(v, row...): the row is any that can be read. -/
theorem apr_run (hT : TabOk P T) (e s b : Nat) {α : Type} [Inhabited α] {d : Dec α} {base len : Nat} {v : Value} {flat : List Value} {xs : List α} {B : Option Addr} {cc : Nat} {c : Call} {x y : Operand} {t : TypeId}
    (hown : w.ownsRow base e s v len flat) (hr : RowR s d w B xs) (hd1 : OneC d) (hop : o.op = .call c) (hcal : c.callee = .builtin .append) (hargs : c.args.toList = [x, y]) (htys : c.argTypes.toList = [t, t])
    (hx : ev F x = v) (hy : ev F y = .slice B xs.length cc) (h1 : appT T t e s b = true) (hs0 : Nat.blt 0 s = true)
    (hbig : (len + xs.length) * b ≤ 140737488355328) (h63 : len + xs.length ≤ 9223372036854775807) (hbase : base ≤ w.heap.size) :
    ∃ A cap w1 news, (execOp (ev F) o).run P w = .ok (.value (.slice A (len + xs.length) cap)) w1 ∧ Elems s d w news xs ∧ w1.ownsRow base e s (.slice A (len + xs.length) cap) (len + xs.length) (flat ++ news) ∧ w.grownBy w1 v.ownBlock ∧ ((Value.slice A (len + xs.length) cap).ownBlock = v.ownBlock ∨ (Value.slice A (len + xs.length) cap).ownBlock = some w.heap.size) := by
  obtain ⟨hu, j, z, hj, hz, hs, hby, hzs⟩ := appT_ok hT h1
  obtain ⟨callee, ⟨args⟩, ⟨tys⟩⟩ := c
  simp only at hcal hargs htys
  subst hcal hargs htys
  cases B with
  | none =>
    have hxs : xs = [] := by
      cases xs with
      | nil => rfl
      | cons a l => obtain ⟨_, _, e, _⟩ := hr.2 0 (by simp); cases e
    subst hxs
    have hform : ∃ A cap, v = .slice A len cap := by
      rcases hown.2 with ⟨rfl, h0⟩ | ⟨g', cap, cur, rfl, _⟩
      · exact ⟨none, 0, by rw [h0]⟩
      · exact ⟨_, cap, rfl⟩
    obtain ⟨A, cap, rfl⟩ := hform
    refine ⟨A, cap, w, [], ?_, Elems.nil .., by simpa using hown, grown_refl _ _, .inl rfl⟩
    have h := run_append_none (P := P) (w := w) base t o.type e j s hu hj _ len flat hown cc
    simp [execOp, hop, resolve, invoke, builtin, hx, hy, h]
  | some ad =>
    obtain ⟨news, hn1, hn2, hn3⟩ := row_flat hr hd1
    obtain ⟨v', w1, hr', h2, h3, _, h5⟩ := run_append_own_at (P := P) w base t o.type e j z s b hu hj hz hs hby hzs (nblt hs0) v len flat hown ad xs.length cc news hn2.1 hn1 hn3 h63 hbig hbase
    have hform : ∃ A cap, v' = .slice A (len + xs.length) cap := by
      rcases h2.2 with ⟨rfl, h0⟩ | ⟨g', cap, cur, rfl, _⟩
      · exact ⟨none, 0, by rw [h0]⟩
      · exact ⟨_, cap, rfl⟩
    obtain ⟨A, cap, rfl⟩ := hform
    refine ⟨A, cap, w1, news, ?_, hn2, h2, h3, h5⟩
    simp [execOp, hop, resolve, invoke, builtin, hx, hy, hr']
theorem wl_apr (hT : TabOk P T) (e s b : Nat) {α : Type} [Inhabited α] {d : Dec α} {base len : Nat} {v : Value} {flat : List Value} {xs : List α} {B : Option Addr} {cc : Nat} {c : Call} {x y : Operand} {t : TypeId}
    (hown : w.ownsRow base e s v len flat) (hr : RowR s d w B xs) (hd1 : OneC d) (hop : o.op = .call c) (hcal : c.callee = .builtin .append) (hargs : c.args.toList = [x, y]) (htys : c.argTypes.toList = [t, t])
    (hx : ev F x = v) (hy : ev F y = .slice B xs.length cc) (h1 : appT T t e s b = true) (hs0 : Nat.blt 0 s = true) (hg : o.guard = none) {dd : Nat} (hd : o.dst = some dd) (hn : Nat.blt dd n = true)
    (hbig : (len + xs.length) * b ≤ 140737488355328) (h63 : len + xs.length ≤ 9223372036854775807) (hbase : base ≤ w.heap.size)
    (k : ∀ A cap w1 news, Elems s d w news xs → w1.ownsRow base e s (.slice A (len + xs.length) cap) (len + xs.length) (flat ++ news) → w.grownBy w1 v.ownBlock → ((Value.slice A (len + xs.length) cap).ownBlock = v.ownBlock ∨ (Value.slice A (len + xs.length) cap).ownBlock = some w.heap.size) →
      wl P n ops rest Q (upd F dd (.slice A (len + xs.length) cap)) w1) : wl P n ops (o :: rest) Q F w := by
  obtain ⟨A, cap, w1, news, hr, h2, h3, h4, h5⟩ := apr_run hT e s b hown hr hd1 hop hcal hargs htys hx hy h1 hs0 hbig h63 hbase
  exact wl_val hg hd hn hr (k A cap w1 news h2 h3 h4 h5)
end
/-! ### an element of a row of the call's own is written -/
theorem Elems.put {α : Type} [Inhabited α] {sz : Nat} {d : Dec α} {w : World} {flat : List Value} {xs : List α} {i k : Nat} {u : Value} {x' : α} (h : Elems sz d w flat xs) (hi : i < xs.length) (hk : k < sz)
    (hx : ∀ cs, cs.length = sz → d w cs xs[i]! → d w (cs.set k u) x') : Elems sz d w (flat.set (i * sz + k) u) (xs.set i x') := by
  refine ⟨by simpa using h.1, fun j hj => ?_⟩
  have hj' : j < xs.length := by simpa using hj
  have hjl : j * sz + sz ≤ flat.length := by rw [h.1, ← Nat.succ_mul]; exact Nat.mul_le_mul_right _ hj'
  by_cases e : j = i
  · subst e
    have e1 : ((flat.set (j * sz + k) u).drop (j * sz)).take sz = ((flat.drop (j * sz)).take sz).set k u := by
      rw [List.drop_set, if_neg (by omega), List.take_set]
      congr 1
      omega
    have e2 : (xs.set j x')[j]! = x' := by rw [getElem!_pos (xs.set j x') j hj]; simp
    rw [e1, e2]
    exact hx _ (by simp; omega) (h.2 j hj')
  · have e1 : ((flat.set (i * sz + k) u).drop (j * sz)).take sz = (flat.drop (j * sz)).take sz := by
      rw [List.drop_set]
      split
      · rfl
      · rename_i hlt
        rw [List.take_set, List.set_eq_of_length_le]
        rcases Nat.lt_or_ge i j with hl | hl
        · have : (i + 1) * sz ≤ j * sz := Nat.mul_le_mul_right _ hl
          rw [Nat.succ_mul] at this
          omega
        · have : (j + 1) * sz ≤ i * sz := Nat.mul_le_mul_right _ (by omega)
          rw [Nat.succ_mul] at this
          simp
          omega
    have e2 : (xs.set i x')[j]! = xs[j]! := by rw [getElem!_pos (xs.set i x') j hj, getElem!_pos xs j hj', List.getElem_set_ne (by omega)]
    rw [e1, e2]
    exact h.2 j hj'
theorem GRow.cur {α : Type} [Inhabited α] {sz : Nat} {d : Dec α} {e : TypeId} {base : Nat} {w : World} {A : Option Addr} {n c : Nat} {xs : List α} {bs : List Nat} (h : GRow sz d e base w (.slice A n c) xs bs) (h0 : 0 < xs.length) :
    ∃ (g : Nat) (cur : List Value), A = some ⟨g, 0, none⟩ ∧ base ≤ g ∧ w.heap[g]? = some (.cells cur.toArray e (0, 0)) ∧ xs.length * sz ≤ cur.length ∧
      ∀ w1 i k u x' bs', i < xs.length → k < sz → Put w w1 g (cur.set (i * sz + k) u) e → (∀ w' cs, (∀ b ∈ bs', w'.heap[b]? = w.heap[b]?) → cs.length = sz → d w' cs xs[i]! → d w' (cs.set k u) x') → (∀ b ∈ bs', (base ≤ b ∧ b < w.heap.size) ∧ b ≠ g) → GRow sz d e base w1 (.slice A n c) (xs.set i x') (bs ++ bs') := by
  obtain ⟨flat, h1, h2⟩ := h.own
  rcases h1.2 with ⟨he, hz⟩ | ⟨g, cap, cur, hv, hbg, hg, hnc, hcm, hcs, htake⟩
  · omega
  have hv' := hv
  injection hv' with e1 e2 e3
  subst e1 e2 e3
  have hcl : xs.length * sz ≤ cur.size := by rw [hcs]; exact Nat.mul_le_mul_right _ hnc
  refine ⟨g, cur.toList, rfl, hbg, by simpa using hg, by simpa using hcl, ?_⟩
  intro w1 i k u x' bs' hi hk hp hx hbs
  have hbne : ∀ b ∈ bs, b ≠ g := fun b hb e => h.ne b hb (by rw [e]; rfl)
  have hall : ∀ b ∈ bs ++ bs', (base ≤ b ∧ b < w.heap.size) ∧ b ≠ g := fun b hb => by
    rcases List.mem_append.1 hb with hb | hb
    · exact ⟨h.lt b hb, hbne b hb⟩
    · exact hbs b hb
  have same : ∀ b ∈ bs ++ bs', w1.heap[b]? = w.heap[b]? := fun b hb => hp.grown.block b (hall b hb).1.2 (by simpa using (hall b hb).2)
  refine ⟨⟨flat.set (i * sz + k) u, ⟨by simpa using h1.1, .inr ⟨g, c, (cur.toList.set (i * sz + k) u).toArray, by simp, hbg, hp.blk, by simpa using hnc, hcm, by simpa using hcs, ?_⟩⟩, fun w' hw' => ?_⟩, fun b hb => ⟨(hall b hb).1.1, by rw [hp.size]; exact (hall b hb).1.2⟩, fun b hb => by simpa [Value.ownBlock] using (hall b hb).2⟩
  · simp only [List.length_set]
    rw [← htake, List.take_set]
  · refine (h2 w' fun b hb => (hw' b (by simp [hb])).trans (same b (by simp [hb]))).put hi hk fun cs hl hd => hx w' cs (fun b hb => (hw' b (by simp [hb])).trans (same b (by simp [hb]))) hl hd
end Go.Proofs.Ytjggjhgbobmkhaa

/- Regions that draw their order, where several operations make blocks: each order that may be is gone through, and all come to one end. -/
namespace Go.Proofs.Ytjggjhgbobmkhaa
open Go.RowKit
set_option linter.unusedVariables false
set_option linter.unusedSimpArgs false
section
variable {P : Program} {ops : Array Oper} {md : Region.Mode} {C : World → Prop}
def runsTo (P : Program) (o : Oper) (a : Act) (w : World) (R : Value → World → Prop) : Prop :=
  (∃ v w', (execOp a.eval o).run P w = .ok (.value v) w' ∧ R v w') ∨
  (∃ f args, (execOp a.eval o).run P w = .ok (.enter f args) w ∧ Calls P f args w fun e w' => ∃ v, e = .returned v ∧ R v w') ∨
  (∃ w', (execOp a.eval o).run P w = .ok .skip w' ∧ R undef w')
theorem runsTo.mono {o : Oper} {a : Act} {w : World} {R R' : Value → World → Prop} (h : runsTo P o a w R) (k : ∀ v w', R v w' → R' v w') : runsTo P o a w R' := by
  rcases h with ⟨v, w', h1, h2⟩ | ⟨f, args, h1, h2⟩ | ⟨w', h1, h2⟩
  · exact .inl ⟨v, w', h1, k _ _ h2⟩
  · exact .inr (.inl ⟨f, args, h1, h2.mono fun e w' ⟨v, he, h3⟩ => ⟨v, he, k _ _ h3⟩⟩)
  · exact .inr (.inr ⟨w', h1, k _ _ h2⟩)
def xUp (P : Program) (C : World → Prop) (o : Oper) (a : Act) (Φ : World → Prop) (K : (World → Prop) → Act → Prop) : Prop :=
  (∃ v, quB P o a C v ∧ K Φ (a.put o.dst v)) ∨
  (∃ Ψ : Value → World → Prop, (∀ v, Stable (Ψ v)) ∧ (∀ w, C w → Φ w → runsTo P o a w fun v w' => C w' ∧ Ψ v w') ∧ ∀ v, K (Ψ v) (a.put o.dst v))
def xOp (P : Program) (ops : Array Oper) (C : World → Prop) (i : Nat) (Φ : World → Prop) (K : (World → Prop) → Act → Prop) (a : Act) : Prop :=
  match ops[i]? with
  | none => K Φ a
  | some o => if Region.wanted o (yielded ops a.tmps) then xUp P C o a Φ K else K Φ (a.put o.dst undef)
def wpX (P : Program) (md : Region.Mode) (ops : Array Oper) (C : World → Prop) (n : Nat) (L : Array Bool → (World → Prop) → Act → Prop) : Nat → Array Bool → (World → Prop) → Act → Prop
  | 0, listed, Φ, a => L listed Φ a
  | f + 1, listed, Φ, a => Region.ready md ops listed ≠ [] ∧ ∀ i ∈ Region.ready md ops listed, i < n ∧ xOp P ops C i Φ (fun Φ' a' => wpX P md ops C n L f (listed.setIfInBounds i true) Φ' a') a
theorem xUp_mono {o : Oper} {a : Act} {Φ : World → Prop} {K K' : (World → Prop) → Act → Prop} (h : ∀ Φ a, K Φ a → K' Φ a) (hh : xUp P C o a Φ K) : xUp P C o a Φ K' := by
  rcases hh with ⟨v, h1, h2⟩ | ⟨Ψ, h1, h2, h3⟩
  · exact .inl ⟨v, h1, h _ _ h2⟩
  · exact .inr ⟨Ψ, h1, h2, fun v => h _ _ (h3 v)⟩
theorem xOp_mono {i : Nat} {a : Act} {Φ : World → Prop} {K K' : (World → Prop) → Act → Prop} (h : ∀ Φ a, K Φ a → K' Φ a) (hh : xOp P ops C i Φ K a) : xOp P ops C i Φ K' a := by
  unfold xOp at *
  split
  · rename_i ho; simp only [ho] at hh; exact h _ _ hh
  · rename_i o ho
    simp only [ho] at hh
    split
    · rename_i hw; simp only [hw, if_true] at hh; exact xUp_mono h hh
    · rename_i hw; simp only [hw] at hh; exact h _ _ hh
theorem wp_of_xUp (hC : Stable C) {o : Oper} {a : Act} {Φ : World → Prop} {K : (World → Prop) → Act → Prop} {K' : Act → World → Prop} {Q' : Exit → Act → World → Prop} {w : World} (hw : C w) (hst : Stable Φ) (hΦ : Φ w)
    (h : ∀ Φ a w', Stable Φ → C w' → Φ w' → K Φ a → K' a w') (hh : xUp P C o a Φ K) : o.wp P a w K' Q' := by
  rcases hh with ⟨v, h1, h2⟩ | ⟨Ψ, h1, h2, h3⟩
  · have h3 := h1 w hw
    unfold Oper.quietAt at h3
    unfold Oper.wp
    generalize (execOp a.eval o).run P w = r at *
    cases r with
    | ok n w' =>
      cases n <;> simp only [Oper.quietUpon] at h3 <;> simp only [Oper.upon]
      case value u =>
        obtain ⟨e1, e2⟩ := h3
        rw [e1, e2]
        exact h _ _ _ hst hw hΦ h2
      case skip =>
        obtain ⟨e1, e2⟩ := h3
        rw [e1, ← e2]
        exact h _ _ _ hst hw hΦ h2
      case enter f args =>
        obtain ⟨e1, hc⟩ := h3
        rw [e1]
        exact hc.mono fun e w'' ⟨he, hw''⟩ => by subst he; exact h _ _ _ hst (hC _ _ hw hw'') (hst _ _ hΦ hw'') h2
    | halt x w' => simp only [Oper.quietUpon] at h3
  · rcases h2 w hw hΦ with ⟨v, w', h4, h5, h6⟩ | ⟨f, args, h4, h5⟩ | ⟨w', h4, h5, h6⟩
    · unfold Oper.wp
      rw [h4]
      exact h _ _ _ (h1 v) h5 h6 (h3 v)
    · unfold Oper.wp
      rw [h4]
      refine h5.mono fun e w'' ⟨v, he, h6, h7⟩ => ?_
      subst he
      exact h _ _ _ (h1 v) h6 h7 (h3 v)
    · unfold Oper.wp
      rw [h4]
      exact h _ _ _ (h1 undef) h5 h6 (h3 undef)
theorem wpOp_of_xOp (hC : Stable C) {i : Nat} {a : Act} {Φ : World → Prop} {K : (World → Prop) → Act → Prop} {K' : Act → World → Prop} {Q' : Exit → Act → World → Prop} {w : World} (hw : C w) (hst : Stable Φ) (hΦ : Φ w)
    (h : ∀ Φ a w', Stable Φ → C w' → Φ w' → K Φ a → K' a w') (hh : xOp P ops C i Φ K a) : wpOp P ops Q' i K' a w := by
  unfold xOp at hh
  unfold wpOp
  split
  · rename_i ho; simp only [ho] at hh; exact h _ _ _ hst hw hΦ hh
  · rename_i o ho
    simp only [ho] at hh
    split
    · rename_i hwn; simp only [hwn, if_true] at hh; exact .inl (wp_of_xUp hC hw hst hΦ h hh)
    · rename_i hwn; simp only [hwn] at hh; exact h _ _ _ hst hw hΦ hh
theorem wpAny_of_X (hC : Stable C) {n g : Nat} {L : Array Bool → (World → Prop) → Act → Prop} {Q' : Exit → Act → World → Prop} (hL : ∀ listed Φ a w, C w → Φ w → L listed Φ a → wpAny P md ops Q' g listed a w) :
    ∀ (f : Nat) (listed : Array Bool) (Φ : World → Prop) (a : Act) (w : World), Stable Φ → C w → Φ w → wpX P md ops C n L f listed Φ a → wpAny P md ops Q' (f + g) listed a w
  | 0, listed, Φ, a, w, _, hw, hΦ, h => by rw [Nat.zero_add]; exact hL _ _ _ _ hw hΦ h
  | f + 1, listed, Φ, a, w, hst, hw, hΦ, h => by
    rw [show f + 1 + g = (f + g) + 1 by omega]
    exact ⟨fun h0 => absurd h0 h.1, fun i hi => wpOp_of_xOp hC hw hst hΦ (fun Φ' a' w' hst' hw' hΦ' h' => wpAny_of_X hC hL f _ Φ' a' w' hst' hw' hΦ' h') (h.2 i hi).2⟩
theorem YieldsB.xOp {i : Nat} {o : Oper} {v : Value} {a : Act} (hi : ops[i]? = some o) (hy : YieldsB P ops C o v a) {Φ : World → Prop} {K : (World → Prop) → Act → Prop} (h : K Φ (a.put o.dst v)) : xOp P ops C i Φ K a := by
  unfold Proofs.Ytjggjhgbobmkhaa.xOp
  simp only [hi]
  rcases hy with ⟨hw, hv⟩ | ⟨hw, rfl⟩
  · simp only [hw, if_true]; exact .inl ⟨v, hv, h⟩
  · simp only [hw, Bool.false_eq_true, if_false]; exact h
theorem xOp_put {j : Nat} {oi oj : Oper} {v : Value} (hj : ops[j]? = some oj) (hap : oi.apart ops oj = true)
    (hsi : ∀ cs b, oi.op ≠ .select cs b) (hsj : ∀ cs b, oj.op ≠ .select cs b) {Φ : World → Prop} {K : (World → Prop) → Act → Prop} {a : Act}
    (hy : YieldsB P ops C oi v a) (h : xOp P ops C j Φ K (a.put oi.dst v)) :
    xOp P ops C j Φ (fun Φ' a' => YieldsB P ops C oi v a' ∧ K Φ' (a'.put oi.dst v)) a := by
  obtain ⟨h1, h2, h3⟩ := Oper.apart_spec hap
  have keep : ∀ (a : Act), YieldsB P ops C oi v a → ∀ u, YieldsB P ops C oi v (a.put oj.dst u) := fun a hy u =>
    hy.of_same (execOp_put oi hsi a oj.dst u h3) (wanted_put oi a oj.dst u h3)
  unfold Proofs.Ytjggjhgbobmkhaa.xOp at *
  simp only [hj] at *
  rw [wanted_put oj a oi.dst v h1] at h
  split
  · rename_i hw
    simp only [hw, if_true] at h
    rcases h with ⟨u, hu, hn⟩ | ⟨Ψ, g1, g2, g3⟩
    · refine .inl ⟨u, fun w hw' => ?_, keep a hy u, by rw [← Act.put_comm a v u h2]; exact hn⟩
      have := hu w hw'
      unfold Oper.quietAt at *
      rwa [execOp_put oj hsj a oi.dst v h1] at this
    · refine .inr ⟨Ψ, g1, fun w hw' hΦ' => ?_, fun u => ⟨keep a hy u, by rw [← Act.put_comm a v u h2]; exact g3 u⟩⟩
      have := g2 w hw' hΦ'
      unfold runsTo at *
      rwa [execOp_put oj hsj a oi.dst v h1] at this
  · rename_i hw
    simp only [hw] at h
    exact ⟨keep a hy _, by rw [← Act.put_comm a v undef h2]; exact h⟩
theorem wpX_first {n i : Nat} {oi : Oper} {v : Value} {L : Array Bool → (World → Prop) → Act → Prop} (hi : ops[i]? = some oi) (hsel : ∀ (j : Nat) (o : Oper) cs b, ops[j]? = some o → o.op ≠ .select cs b)
    (hs : Region.sinkB md ops n = true) (hc : Region.chainB md ops n = true) (hn : n < ops.size) (hin : i < n)
    (hdone : ∀ listed Φ a, L listed Φ a → ∀ j ∈ Region.ready md ops listed, n ≤ j) :
    ∀ (f : Nat) (listed : Array Bool) (Φ : World → Prop) (a : Act), HeadInv md ops n listed →
      (∀ j oj, ops[j]? = some oj → j ≠ i → listed.getD j true = false → (∀ e ∈ oj.after, Region.binds md e = true → e.on ≠ i) → oi.apart ops oj = true) →
      i ∈ Region.ready md ops listed → YieldsB P ops C oi v a →
      wpX P md ops C n L f (listed.setIfInBounds i true) Φ (a.put oi.dst v) → wpX P md ops C n L (f + 1) listed Φ a := by
  intro f
  induction f with
  | zero =>
    intro listed Φ a inv _ hr hy H
    have hun := (mem_ready.1 hr).1
    refine ⟨fun h => (by rw [h] at hr; cases hr), fun j hj => ?_⟩
    have hjn : j < n := by
      rcases Nat.lt_or_ge j n with h | h
      · exact h
      · exact absurd hj (tail_waits hs hc hn inv _ i rfl hin hun j h)
    refine ⟨hjn, ?_⟩
    by_cases hji : j = i
    · subst hji; exact hy.xOp hi H
    · have := hdone _ _ _ H j (ready_mono hj hji)
      omega
  | succ f ih =>
    intro listed Φ a inv hfree hr hy H
    have hun := (mem_ready.1 hr).1
    refine ⟨fun h => (by rw [h] at hr; cases hr), fun j hj => ?_⟩
    have hjn : j < n := by
      rcases Nat.lt_or_ge j n with h | h
      · exact h
      · exact absurd hj (tail_waits hs hc hn inv _ i rfl hin hun j h)
    refine ⟨hjn, ?_⟩
    by_cases hji : j = i
    · subst hji; exact hy.xOp hi H
    · have h1 := (H.2 j (ready_mono hj hji)).2
      obtain ⟨hjun, oj, hoj, hall⟩ := mem_ready.1 hj
      have hnot : ∀ e ∈ oj.after, Region.binds md e = true → e.on ≠ i := fun e he hb heq => by
        have h1 := hall e he hb
        rw [heq, getD_both hun] at h1
        cases h1
      have h2 := xOp_put hoj (hfree j oj hoj hji hjun hnot) (fun cs b => hsel i oi cs b hi) (fun cs b => hsel j oj cs b hoj) hy h1
      have hfree' : ∀ k ok, ops[k]? = some ok → k ≠ i → (listed.setIfInBounds j true).getD k true = false →
          (∀ e ∈ ok.after, Region.binds md e = true → e.on ≠ i) → oi.apart ops ok = true := fun k ok hk hki hun hno => by
        refine hfree k ok hk hki ?_ hno
        by_cases hjk : j = k
        · subst hjk; exact hjun
        · rw [getD_set_ne true hjk] at hun; exact hun
      refine xOp_mono (fun Φ' a' h3 => ih (listed.setIfInBounds j true) Φ' a' (inv.set hj hjn) hfree' (ready_mono hr (Ne.symm hji)) h3.1 ?_) h2
      rw [Array.setIfInBounds_comm _ _ hji]
      exact h3.2

/-- The orders that may be: what is known of them without a world. -/
def exB (md : Region.Mode) (ops : Array Oper) (g n : Nat) : Nat → Array Bool → Bool
  | 0, listed => Region.seqB md ops g n listed
  | f + 1, listed => !(Region.ready md ops listed).isEmpty && (Region.ready md ops listed).all fun i => decide (i < n) && ((ops[i]?).map fun o => o.guard.isNone).getD false && exB md ops g n f (listed.setIfInBounds i true)
def exA (P : Program) (md : Region.Mode) (ops : Array Oper) (C : World → Prop) (T : Act → World → Prop) : Nat → Array Bool → Act → World → Prop
  | 0, _, a, W => T a W
  | f + 1, listed, a, W => ∀ i ∈ Region.ready md ops listed, ∀ o, ops[i]? = some o → runsTo P o a W fun v w2 => C w2 ∧ ∀ W', Below w2.heap.size w2 W' → C W' → exA P md ops C T f (listed.setIfInBounds i true) (a.put o.dst v) W'
theorem wpX_of_ex {g n : Nat} {T : Act → World → Prop} : ∀ (f : Nat) (listed : Array Bool) (Φ : World → Prop) (a : Act), exB md ops g n f listed = true → (∀ W, C W → Φ W → exA P md ops C T f listed a W) →
    wpX P md ops C n (fun listed' Φ' a' => Region.seqB md ops g n listed' = true ∧ ∀ W, C W → Φ' W → T a' W) f listed Φ a
  | 0, listed, Φ, a, hB, h => ⟨hB, h⟩
  | f + 1, listed, Φ, a, hB, h => by
    simp only [exB, Bool.and_eq_true, Bool.not_eq_true', List.isEmpty_eq_false_iff, List.all_eq_true, decide_eq_true_eq] at hB
    refine ⟨hB.1, fun i hi => ?_⟩
    obtain ⟨⟨h1, h2⟩, h3⟩ := hB.2 i hi
    refine ⟨h1, ?_⟩
    cases ho : ops[i]? with
    | none => rw [ho] at h2; simp at h2
    | some o =>
      rw [ho] at h2
      have hg : o.guard = none := by simpa using h2
      unfold Proofs.Ytjggjhgbobmkhaa.xOp
      simp only [ho]
      rw [if_pos (by simp [Region.wanted, hg])]
      refine .inr ⟨fun v W => ∃ w2, Below w2.heap.size w2 W ∧ ∀ W', Below w2.heap.size w2 W' → C W' → exA P md ops C T f (listed.setIfInBounds i true) (a.put o.dst v) W', fun v w w' ⟨w2, h1, h2⟩ hb => ⟨w2, bup h1 hb, h2⟩, fun w hw hΦ => ?_, fun v => wpX_of_ex f _ _ _ h3 fun W hW ⟨w2, h1, h2⟩ => h2 W h1 hW⟩
      exact (h w hw hΦ i hi o ho).mono fun v w2 ⟨h4, h5⟩ => ⟨h4, w2, Below.refl _ _, h5⟩
/-- The heads that read alone, in this order, then f others in any. -/
def permB (md : Region.Mode) (ops : Array Oper) (g n f : Nat) : List Nat → Array Bool → Bool
  | [], listed => exB md ops g n f listed
  | k :: qs, listed => decide (k < n) && (Region.ready md ops listed).contains k && Region.free md ops listed k && permB md ops g n f qs (listed.setIfInBounds k true)
def setAllB : List Nat → Array Bool → Array Bool
  | [], listed => listed
  | k :: qs, listed => setAllB qs (listed.setIfInBounds k true)
def opsAt (ops : Array Oper) : List Nat → List Oper
  | [] => []
  | k :: qs => match ops[k]? with
    | some o => o :: opsAt ops qs
    | none => opsAt ops qs
theorem wpX_perm {n g f : Nat} {T : Act → World → Prop} (hsel : Region.noSelect ops = true) (hs : Region.sinkB md ops n = true) (hc : Region.chainB md ops n = true) (hn : n < ops.size) :
    ∀ (qs : List Nat) (listed : Array Bool) (Φ : World → Prop) (a : Act), HeadInv md ops n listed → permB md ops g n f qs listed = true →
    wpQB P ops C (fun a' => ∀ W, C W → Φ W → exA P md ops C T f (setAllB qs listed) a' W) (opsAt ops qs) a →
    wpX P md ops C n (fun listed' Φ' a' => Region.seqB md ops g n listed' = true ∧ ∀ W, C W → Φ' W → T a' W) (qs.length + f) listed Φ a
  | [], listed, Φ, a, inv, hB, h => by
    rw [List.length_nil, Nat.zero_add]
    exact wpX_of_ex f listed Φ a hB h
  | k :: qs, listed, Φ, a, inv, hB, h => by
    simp only [permB, Bool.and_eq_true, decide_eq_true_eq] at hB
    obtain ⟨⟨⟨hkn, hr⟩, hf⟩, hB'⟩ := hB
    have hr' : k ∈ Region.ready md ops listed := by simpa using hr
    obtain ⟨o, h0⟩ : ∃ o, ops[k]? = some o := ⟨ops[k]'(by omega), by simp⟩
    have e1 : opsAt ops (k :: qs) = o :: opsAt ops qs := by simp [opsAt, h0]
    rw [e1] at h
    have key : ∃ v, YieldsB P ops C o v a ∧ wpQB P ops C (fun a' => ∀ W, C W → Φ W → exA P md ops C T f (setAllB (k :: qs) listed) a' W) (opsAt ops qs) (a.put o.dst v) := by
      unfold wpQB at h
      by_cases hw : Region.wanted o (yielded ops a.tmps) = true
      · rw [if_pos hw] at h
        obtain ⟨v, h1, h2⟩ := h
        exact ⟨v, .inl ⟨hw, h1⟩, h2⟩
      · rw [if_neg hw] at h
        exact ⟨undef, .inr ⟨by simpa using hw, rfl⟩, h⟩
    obtain ⟨v, hy, hK⟩ := key
    have e : (k :: qs).length + f = qs.length + f + 1 := by simp; omega
    rw [e]
    exact wpX_first h0 (Region.noSelect_spec hsel) hs hc hn hkn (fun listed' Φ' a' hL => seqB_ready hL.1) (qs.length + f) listed Φ a inv (Region.free_spec h0 hf) hr' hy
      (wpX_perm hsel hs hc hn qs _ Φ _ (inv.set hr' hkn) hB' hK)
def permAll (ops : Array Oper) (qs : List Nat) (f n : Nat) : Bool :=
  Region.noSelect ops && decide (n < ops.size) && decide (qs.length + f = n) && Region.sinkB .any ops n && Region.chainB .any ops n && permB .any ops (ops.size - n) n f qs (Array.replicate ops.size false)
theorem wp_region_perm {id : Nat} {Q : Exit → Act → World → Prop} {a : Act} {w : World} {l : List Oper} (qs : List Nat) (f n : Nat) (hC : Stable C) (hm : P.follows .mixedOrders = true) (hB : permAll l.toArray qs f n = true) (hCw : C w)
    (h : wpQB P l.toArray C (fun a' => ∀ W, C W → Below w.heap.size w W → exA P .any l.toArray C (wpList P l.toArray Q (l.drop n)) f (setAllB qs (Array.replicate l.toArray.size false)) a' W) (opsAt l.toArray qs) a) : (Code.region id l.toArray true).wp P Q a w := by
  simp only [permAll, Bool.and_eq_true, decide_eq_true_eq] at hB
  obtain ⟨⟨⟨⟨⟨hsel, hn⟩, hqf⟩, hs⟩, hc⟩, hperm⟩ := hB
  have hdl : (l.drop n).length = l.toArray.size - n := by simp
  have inv0 : HeadInv .any l.toArray n (Array.replicate l.toArray.size false) :=
    ⟨by simp, fun j oj _ hl => (by rw [getD_replicate_false] at hl; cases hl), fun t _ ht => getD_in (by simpa using ht) (getD_replicate_false _ _)⟩
  have H := wpX_perm (P := P) (C := C) (md := .any) (g := l.toArray.size - n) (T := wpList P l.toArray Q (l.drop n)) hsel hs hc hn qs _ (fun W => Below w.heap.size w W) a inv0 hperm h
  refine wp_region_any hm ?_
  have hst : Stable (fun W => Below w.heap.size w W) := fun _ _ h h' => bup h h'
  have hΦ : Below w.heap.size w { w with drawn := w.drawn + 1 } := ⟨rfl, rfl, rfl, Nat.le_refl _, fun _ _ => rfl⟩
  have hw' : C { w with drawn := w.drawn + 1 } := hC _ _ hCw ⟨rfl, rfl, rfl, Nat.le_refl _, fun _ _ => rfl⟩
  have := wpAny_of_X hC (Q' := Q) (g := l.toArray.size - n) (L := fun listed' Φ' a' => Region.seqB .any l.toArray (l.toArray.size - n) n listed' = true ∧ ∀ W, C W → Φ' W → wpList P l.toArray Q (l.drop n) a' W) (fun listed Φ a' W hW hΦ hL => by
    have := wpAny_of_seq (md := .any) (Q' := Q) (l.drop n) n listed a' W (fun j => by simp [List.getElem?_drop]) (by rw [hdl]; exact hL.1) (hL.2 W hW hΦ)
    rwa [hdl] at this) _ _ (fun W => Below w.heap.size w W) a _ hst hw' hΦ H
  have e : qs.length + f + (l.toArray.size - n) = l.toArray.size := by omega
  rwa [e] at this
end
/-! ### in the frames -/
section
variable {P : Program} {T : Nat → Option TI} {n : Nat} {Q : Post} {F : Fm} {w : World} {ops : Array Oper} {rest : List Oper} {o : Oper} {K : Fm → World → Prop} {C : World → Prop}
structure wb (P : Program) (n : Nat) (o : Oper) (F : Fm) (w : World) (K : Fm → World → Prop) : Prop where
  dst : dstOk n o.dst = true
  go : (∃ v w', (execOp (ev F) o).run P w = .ok (.value v) w' ∧ K (updO F o.dst v) w') ∨
    (∃ f args, (execOp (ev F) o).run P w = .ok (.enter f args) w ∧ Calls P f args w fun e w' => ∃ v, e = .returned v ∧ K (updO F o.dst v) w') ∨
    (∃ w', (execOp (ev F) o).run P w = .ok .skip w' ∧ K (updO F o.dst undef) w')
theorem wb.runs {a : Act} (h : wb P n o F w K) (ha : Fr a n F) : runsTo P o a w fun v w' => K (updO F o.dst v) w' := by
  unfold runsTo
  rw [ha.eval]
  exact h.go
theorem wb_a (h : wa P n o F w K) : wb P n o F w K := let ⟨v, w2, h1, h2, h3⟩ := h.go; ⟨h2, .inl ⟨v, w2, h1, h3⟩⟩
theorem wb_P (hT : TabOk P T) {v : Value} (h : pureF T o.op F = some v) {d : Nat} (hd : o.dst = some d) (hn : Nat.blt d n = true) (k : K (upd F d v) w) : wb P n o F w K :=
  ⟨dst_some hd hn, .inl ⟨v, w, pure_ok hT h, by rw [hd]; exact k⟩⟩
theorem wb_val {v : Value} {w1 : World} {d : Nat} (hd : o.dst = some d) (hn : Nat.blt d n = true) (hrun : (execOp (ev F) o).run P w = .ok (.value v) w1) (k : K (upd F d v) w1) : wb P n o F w K :=
  ⟨dst_some hd hn, .inl ⟨v, w1, hrun, by rw [hd]; exact k⟩⟩
theorem wb_mk (hT : TabOk P T) (e s b : Nat) {t : TypeId} {x y : Operand} {m : Nat} {i : TI} {z : List Value} (hop : o.op = .makeSlice t x y) (hx : ev F x = .int .i64 m) (hy : ev F y = .int .i64 m) (h1 : appT T t e s b = true) (hi : T e = some i) (hz : i.zero.cells = z.toArray) {d : Nat} (hd : o.dst = some d) (hn : Nat.blt d n = true)
    (hbig : b * m ≤ 281474976710656) (h63 : m ≤ 9223372036854775807)
    (k : ∀ g w1, New w w1 g (List.replicate m z).flatten e → K (upd F d (.slice (some ⟨g, 0, none⟩) m m)) w1) : wb P n o F w K := by
  obtain ⟨hu, j, z', hj, hz', hs, hby, hzs⟩ := appT_ok hT h1
  obtain ⟨j2, hj2, hz2, _, _⟩ := T_i hT hi
  rw [hj] at hj2
  cases hj2
  rw [hz'] at hz2
  cases hz2
  refine wb_val hd hn ?_ (k _ _ (new_alloc w _ e))
  have hbi : ((j.bytes : Int) * (m : Int)) ≤ 281474976710656 := by rw [hby, ← Int.natCast_mul]; omega
  have hr := run_make (P := P) w t e j i.zero hu hj hz' .i64 .i64 m m (by omega) (by omega) hbi (by omega)
  simp only [Int.toNat_natCast] at hr
  have hc : madeCells i.zero.cells (m * j.size) = ((List.replicate m z).flatten).toArray := by
    rw [← zeros_eq z m]
    have hzl : z.length = s := by rw [hz] at hzs; simpa using hzs
    unfold madeCells
    rw [hz, hs, hzl]
    apply Array.ext'
    simp [hzl]
  rw [hc] at hr
  simp [execOp, hop, hx, hy, hr]
theorem wb_C {f : FuncId} {c : Call} {x : Operand} {args : List Value} {R : Ending → World → Prop} (hf : FnOk P f) (hc : Calls P f args.toArray w R) (hop : o.op = .call c) (hcal : c.callee = .value x) (hx : ev F x = .func (.func f) #[] #[]) (hargs : c.args.toList.map (ev F) = args) {d : Nat} (hd : o.dst = some d) (hn : Nat.blt d n = true)
    (k : ∀ e w1, R e w1 → ∃ v, e = .returned v ∧ K (upd F d v) w1) : wb P n o F w K := by
  refine ⟨dst_some hd hn, .inr (.inl ⟨f, args.toArray, ?_, hc.mono fun e w' h => by rw [hd]; exact k e w' h⟩)⟩
  have : c.args.map (ev F) = args.toArray := Array.toList_inj.1 (by rw [Array.toList_map, hargs])
  simp [execOp, hop, resolve, hcal, hx, Deferred.ofValue, this, invoke, run_callFunc hf]
def allL (p : Nat → Prop) : List Nat → Prop
  | [] => True
  | i :: l => p i ∧ allL p l
theorem allL_mem {p : Nat → Prop} : ∀ {l : List Nat}, allL p l → ∀ i ∈ l, p i
  | [], _, i, h => by cases h
  | j :: l, ⟨h1, h2⟩, i, h => by
    rcases List.mem_cons.1 h with rfl | h
    · exact h1
    · exact allL_mem h2 i h
def rdyL (l : List Oper) (listed : List Bool) : List Nat :=
  (List.range l.length).filter fun i => !(listed.getD i true) && match l[i]? with
    | some o => o.after.toList.all fun e => !Region.binds .any e || listed.getD e.on false
    | none => false
theorem rdyL_eq (l : List Oper) (listed : List Bool) : Region.ready .any l.toArray listed.toArray = rdyL l listed := by
  unfold Region.ready rdyL
  have e1 : l.toArray.size = l.length := by simp
  rw [e1]
  congr 1
  funext i
  have e2 : ∀ (d : Bool) (k : Nat), listed.toArray.getD k d = listed.getD k d := fun d k => by simp [Array.getD_eq_getD_getElem?, List.getD_eq_getElem?_getD]
  rw [e2]
  congr 1
  have e3 : l.toArray[i]? = l[i]? := by simp
  rw [e3]
  cases l[i]? with
  | none => rfl
  | some o =>
    simp only [Option.map_some, Option.getD_some]
    rw [← Array.all_toList]
    congr 1
    funext e
    rw [e2]
def setAllL : List Nat → List Bool → List Bool
  | [], listed => listed
  | k :: qs, listed => setAllL qs (listed.set k true)
theorem setAllL_eq : ∀ (qs : List Nat) (listed : List Bool), setAllB qs listed.toArray = (setAllL qs listed).toArray
  | [], _ => rfl
  | k :: qs, listed => by
    simp only [setAllB, setAllL]
    rw [← setAllL_eq qs]
    congr 1
    simp
def opF (P : Program) (n : Nat) (l : List Oper) (i : Nat) (F : Fm) (w : World) (K : Fm → World → Prop) : Prop :=
  match l[i]? with
  | some o => wb P n o F w K
  | none => True
def exF (P : Program) (n : Nat) (l : List Oper) (C : World → Prop) (T : Fm → World → Prop) : Nat → List Bool → Fm → World → Prop
  | 0, _, F, W => T F W
  | f + 1, listed, F, W => allL (fun i => opF P n l i F W fun F2 w2 => C w2 ∧ ∀ W', Below w2.heap.size w2 W' → C W' → exF P n l C T f (listed.set i true) F2 W') (rdyL l listed)
theorem exA_of {l : List Oper} {T : Fm → World → Prop} {T' : Act → World → Prop} (hT' : ∀ a F W, Fr a n F → T F W → T' a W) : ∀ (f : Nat) (listed : List Bool) (a : Act) (F : Fm) (W : World), Fr a n F → exF P n l C T f listed F W → exA P .any l.toArray C T' f listed.toArray a W
  | 0, _, a, F, W, ha, h => hT' a F W ha h
  | f + 1, listed, a, F, W, ha, h => fun i hi o ho => by
    rw [rdyL_eq] at hi
    have h1 := allL_mem h i hi
    unfold opF at h1
    have ho' : l[i]? = some o := by simpa using ho
    rw [ho'] at h1
    refine (h1.runs ha).mono fun v w2 ⟨h3, h4⟩ => ⟨h3, fun W' hW' hC' => ?_⟩
    have := exA_of hT' f _ _ _ W' (ha.put h1.dst v) (h4 W' hW' hC')
    have e : (listed.set i true).toArray = listed.toArray.setIfInBounds i true := by simp
    rwa [e] at this
def opsL (l : List Oper) : List Nat → List Oper
  | [] => []
  | k :: qs => match l[k]? with
    | some o => o :: opsL l qs
    | none => opsL l qs
theorem opsL_eq (l : List Oper) : ∀ qs, opsAt l.toArray qs = opsL l qs
  | [] => rfl
  | k :: qs => by
    have e3 : l.toArray[k]? = l[k]? := by simp
    simp only [opsAt, opsL, e3, opsL_eq l qs]
/-- qs: the heads that read alone; f: how many others come ahead of the tail, which begins at number m. -/
theorem wc_qx {id : Nat} {l : List Oper} (qs : List Nat) (f m : Nat) (hC : Stable C) (hT : TabOk P T) (hm : P.follows .mixedOrders = true) (hB : permAll l.toArray qs f m = true) (hCw : C w)
    (h : runQ P T n l.toArray C (opsL l qs) (fun F' => ∀ w1, C w1 → Below w.heap.size w w1 → exF P n l C (fun F2 W => runG P T n l.toArray (l.drop m) Q F2 W) f (setAllL qs (List.replicate l.length false)) F' w1) F) : wc P n (.region id l.toArray true) Q F w := by
  unfold wc
  intro a ha
  have hq := (run_q hT h).go a ha
  rw [← opsL_eq] at hq
  refine wp_region_perm qs f m hC hm hB hCw (wpQB_mono ?_ hq)
  rintro a' ⟨F', h2, h3⟩ w1 hw1 hb1
  have := exA_of (T' := wpList P l.toArray (lift n Q) (l.drop m)) (T := fun F2 W => runG P T n l.toArray (l.drop m) Q F2 W) (fun a F W ha h => ?_) _ _ _ _ _ h2 (h3 w1 hw1 hb1)
  · rw [← setAllL_eq] at this
    have e : (List.replicate l.length false).toArray = Array.replicate l.toArray.size false := by simp
    rwa [e] at this
  · have := run_l hT h
    unfold wl at this
    exact this _ ha
/-- The region's end is one, whatever its order was. -/
theorem wc_cutR {X : Type} (S : X → List (Nat × Value)) (R : X → World → Prop) {c : Code} (h : wc P n c ⟨fun F' w' => ∃ x', holds F' (S x') ∧ R x' w', fun _ _ => False, fun _ _ _ => False⟩ F w) (k : ∀ x G w, R x w → Q.n (upds G (S x)) w) : wc P n c Q F w :=
  wc_mono h (fun F' w' ⟨x', h1, h2⟩ => by have := k x' F' w' h2; rwa [upds_of_holds h1] at this) (fun _ _ h => h.elim) (fun _ _ _ h => h.elim)
end
end Go.Proofs.Ytjggjhgbobmkhaa

/- Small things that many texts use. -/
namespace Go.Proofs.Ytjggjhgbobmkhaa
open Go.RowKit
set_option linter.unusedVariables false
set_option linter.unusedSimpArgs false
def vb (xs : List Bool) : List Value := xs.map Value.bool
theorem fold_take {α β : Type} [Inhabited α] (f : β → α → β) (z : β) {xs : List α} {i : Nat} (h : i < xs.length) : (xs.take (i + 1)).foldl f z = f ((xs.take i).foldl f z) xs[i]! := by
  have e : xs.take (i + 1) = xs.take i ++ [xs[i]!] := by
    rw [getElem!_pos xs i h]
    simp
  rw [e, List.foldl_append]
  rfl
theorem fold_all {α β : Type} (f : β → α → β) (z : β) {xs : List α} {i : Nat} (h : ¬ i < xs.length) : (xs.take i).foldl f z = xs.foldl f z := by rw [List.take_of_length_le (by omega)]
theorem below_of_grown {w w1 : World} (h : w.grownBy w1 none) : Below w.heap.size w w1 := ⟨h.os, h.tape, h.output, h.size, fun k hk => h.block k hk nofun⟩
theorem gints_push {base : Nat} {w w1 : World} {v v' : Value} {ys : List Int} {flat : List Value} {y : Int} (h : GInts base w v ys) (hflat : ∀ w', (∀ b ∈ ([] : List Nat), w'.heap[b]? = w.heap[b]?) → Elems 1 (dI .i64) w' flat ys) (hown : w1.ownsRow base 3 1 v' (ys.length + 1) (flat ++ [.int .i64 y])) (hg : w.grownBy w1 v.ownBlock)
    (hob : v'.ownBlock = v.ownBlock ∨ v'.ownBlock = some w.heap.size) (hy : -9223372036854775808 ≤ y ∧ y ≤ 9223372036854775807) : GInts base w1 v' (ys ++ [y]) := by
  have := h.push hflat hown hg hob rfl (bs' := []) (x := y) (fun w' _ => ⟨rfl, hy⟩) (by simp) (by simp)
  simpa using this
theorem mem_own {v : Value} {b : Nat} (h : b ∈ v.ownBlock.toList) : v.ownBlock = some b := by simpa using h
end Go.Proofs.Ytjggjhgbobmkhaa

/- copy; rows of rows of one's own. -/
namespace Go.Proofs.Ytjggjhgbobmkhaa
open Go.RowKit
set_option linter.unusedVariables false
set_option linter.unusedSimpArgs false
section
variable {P : Program} {T : Nat → Option TI} {n : Nat} {Q : Post} {F : Fm} {w : World} {ops : Array Oper} {rest : List Oper} {o : Oper}
theorem put_setRow {g : Nat} {cur cs : List Value} {t : TypeId} (hb : w.heap[g]? = some (.cells cur.toArray t (0, 0))) : Put w (w.setRow g cs.toArray) g cs t :=
  ⟨by simp [World.setRow], setRow_heap w g cur.toArray _ t _ hb, ⟨rfl, rfl, rfl, by simp [World.setRow], fun k _ hk => setRow_other w g k _ (fun e => hk (by simp [e]))⟩⟩
/-- copy into a block of one's own, cell by cell. -/
theorem wl_copy (hT : TabOk P T) (e b : Nat) {t t2 t' : TypeId} {c : Call} {x y : Operand} {g dl dc sl sc : Nat} {a : Addr} {cur : List Value} (cs : List Value) (hb : w.heap[g]? = some (.cells cur.toArray t' (0, 0))) (hop : o.op = .call c) (hcal : c.callee = .builtin .copy) (hargs : c.args.toList = [x, y]) (htys : c.argTypes.toList = [t, t2])
    (hx : ev F x = .slice (some ⟨g, 0, none⟩) dl dc) (hy : ev F y = .slice (some a) sl sc) (h1 : appT T t e 1 b = true) (hg : o.guard = none) {d : Nat} (hd : o.dst = some d) (hn : Nat.blt d n = true)
    (hl : cs.length = min sl dl) (hsrc : ∀ j v, cs[j]? = some v → w.cell? (a.add j) = some v) (hfit : cs.length ≤ cur.length) (hone : ∀ v ∈ cs, v.oneCell' = true)
    (k : ∀ w1, Put w w1 g (cs ++ cur.drop cs.length) t' → wl P n ops rest Q (upd F d (goInt cs.length)) w1) : wl P n ops (o :: rest) Q F w := by
  obtain ⟨hu, j, z, hj, hz, hs, hby, hzs⟩ := appT_ok hT h1
  obtain ⟨callee, ⟨args⟩, ⟨tys⟩⟩ := c
  simp only at hcal hargs htys
  subst hcal hargs htys
  have hr := run_copy_row (P := P) w t t2 o.type e g 0 dl dc a sl sc cur.toArray t' cs hu (by rw [hj]; simp [hs]) hb hl hsrc (by simpa using hfit) hone
  refine wl_val hg hd hn ?_ (k _ (put_setRow (cs := cs ++ cur.drop cs.length) hb))
  simp at hr
  simp [execOp, hop, resolve, invoke, builtin, hx, hy, hr]
end
/-- A row of rows of numbers, all of the call's own: g holds the rows' values vs, bl are the blocks where they lie. -/
structure GMat (base g : Nat) (w : World) (vs : List Value) (M : List (List Int)) (bl : List Nat) : Prop where
  blk : w.heap[g]? = some (.cells vs.toArray 31 (0, 0))
  len : vs.length = M.length
  hg : base ≤ g
  gb : g ∉ bl
  lt : ∀ b ∈ bl, base ≤ b ∧ b < w.heap.size
  row : ∀ i, i < M.length → GInts base w vs[i]! M[i]! ∧ ∀ b, vs[i]!.ownBlock = some b → b ∈ bl
  ne : ∀ i j, i < M.length → j < M.length → i ≠ j → ∀ b, vs[i]!.ownBlock = some b → vs[j]!.ownBlock ≠ some b
section
variable {base g : Nat} {w w1 w2 : World} {vs : List Value} {M : List (List Int)} {bl : List Nat}
theorem GMat.stays (h : GMat base g w vs M bl) {row : Option Nat} (hg : w.grownBy w1 row) (h1 : ∀ b, row = some b → b ≠ g ∧ b ∉ bl) : GMat base g w1 vs M bl := by
  refine ⟨(hg.block g (blk_lt h.blk) (fun e => (h1 g e.symm).1 rfl)).trans h.blk, h.len, h.hg, h.gb, fun b hb => ⟨(h.lt b hb).1, Nat.lt_of_lt_of_le (h.lt b hb).2 hg.size⟩, fun i hi => ⟨(h.row i hi).1.stays row hg (by simp) ?_, (h.row i hi).2⟩, h.ne⟩
  cases ho : vs[i]!.ownBlock with
  | none => exact .inl rfl
  | some b => exact .inr fun e => (h1 b e.symm).2 ((h.row i hi).2 b ho)
theorem GMat.below (h : GMat base g w vs M bl) (hb : Below w.heap.size w w1) : GMat base g w1 vs M bl := h.stays (grown_of (row := none) hb) nofun
theorem get_set {α : Type} [Inhabited α] (xs : List α) (i j : Nat) (x : α) (hj : j < xs.length) : (xs.set i x)[j]! = if i = j then x else xs[j]! := by
  rw [getElem!_pos _ j (by simpa using hj), List.getElem_set]
  split
  · rfl
  · rw [getElem!_pos xs j hj]
theorem GMat.app (h : GMat base g w vs M bl) {i : Nat} (hi : i < M.length) {v' : Value} {x : Int} (hv : GInts base w1 v' (M[i]! ++ [x])) (hgr : w.grownBy w1 vs[i]!.ownBlock)
    (hob : v'.ownBlock = vs[i]!.ownBlock ∨ ∃ b, v'.ownBlock = some b ∧ w.heap.size ≤ b) (hp : Put w1 w2 g (vs.set i v') 31) : GMat base g w2 (vs.set i v') (M.set i (M[i]! ++ [x])) (bl ++ v'.ownBlock.toList) := by
  have hgl := blk_lt h.blk
  have hnew : ∀ b, v'.ownBlock = some b → b ∈ bl ∨ w.heap.size ≤ b := fun b e => by
    rcases hob with e1 | ⟨b', e1, e2⟩
    · exact .inl ((h.row i hi).2 b (by rw [← e1]; exact e))
    · rw [e] at e1; cases e1; exact .inr e2
  have hng : ∀ b, v'.ownBlock = some b → b ≠ g := fun b e e' => by
    subst e'
    rcases hnew b e with h1 | h1
    · exact h.gb h1
    · omega
  have hgi : ∀ b, vs[i]!.ownBlock = some b → b ≠ g := fun b e e' => h.gb (e' ▸ (h.row i hi).2 b e)
  refine ⟨hp.blk, by simp [h.len], h.hg, ?_, ?_, ?_, ?_⟩
  · intro hm
    rcases List.mem_append.1 hm with hm | hm
    · exact h.gb hm
    · exact hng g (mem_own hm) rfl
  · intro b hb
    rcases List.mem_append.1 hb with hb | hb
    · exact ⟨(h.lt b hb).1, by rw [hp.size]; exact Nat.lt_of_lt_of_le (h.lt b hb).2 hgr.size⟩
    · rw [hp.size]; exact hv.olt b (mem_own hb)
  · intro j hj
    have hj' : j < M.length := by simpa using hj
    rw [get_set _ _ _ _ (by rw [h.len]; exact hj'), get_set _ _ _ _ hj']
    by_cases e : i = j
    · rw [if_pos e, if_pos e]
      exact ⟨hv.other hp.grown (by simp) (fun b hb => hng b hb), fun b hb => List.mem_append_right _ (by rw [hb]; simp)⟩
    · rw [if_neg e, if_neg e]
      refine ⟨((h.row j hj').1.stays _ hgr (by simp) ?_).other hp.grown (by simp) (fun b hb e' => h.gb (e' ▸ (h.row j hj').2 b hb)), fun b hb => List.mem_append_left _ ((h.row j hj').2 b hb)⟩
      cases ho : vs[j]!.ownBlock with
      | none => exact .inl rfl
      | some b => exact .inr fun e' => h.ne j i hj' hi (fun q => e q.symm) b ho e'.symm
  · intro j k hj hk hjk b hb
    have hj' : j < M.length := by simpa using hj
    have hk' : k < M.length := by simpa using hk
    rw [get_set _ _ _ _ (by rw [h.len]; exact hj')] at hb
    rw [get_set _ _ _ _ (by rw [h.len]; exact hk')]
    have old : ∀ l, l < M.length → vs[l]!.ownBlock = some b → b < w.heap.size := fun l hl e => (h.lt b ((h.row l hl).2 b e)).2
    by_cases e : i = j
    · rw [if_pos e] at hb
      subst e
      rw [if_neg hjk]
      intro e2
      rcases hob with e1 | ⟨b', e1, e3⟩
      · exact h.ne i k hi hk' hjk b (by rw [← e1]; exact hb) e2
      · rw [hb] at e1; cases e1
        have := old k hk' e2
        omega
    · rw [if_neg e] at hb
      by_cases e5 : i = k
      · subst e5
        rw [if_pos rfl]
        intro e2
        rcases hob with e1 | ⟨b', e1, e3⟩
        · exact h.ne j i hj' hi hjk b hb (by rw [← e1]; exact e2)
        · rw [e2] at e1; cases e1
          have := old j hj' hb
          omega
      · rw [if_neg e5]
        exact h.ne j k hj' hk' hjk b hb
theorem GMat.init {n : Nat} (hb : w.heap[g]? = some (.cells (List.replicate n [Value.slice none 0 0]).flatten.toArray 31 (0, 0))) (hg : base ≤ g) : GMat base g w (List.replicate n (.slice none 0 0)) (List.replicate n []) [] := by
  have e : (List.replicate n [Value.slice none 0 0]).flatten = List.replicate n (.slice none 0 0) := by simp
  rw [e] at hb
  have hv : ∀ i, i < n → (List.replicate n (Value.slice none 0 0))[i]! = .slice none 0 0 := fun i hi => by rw [getElem!_pos _ i (by simpa using hi)]; simp
  refine ⟨hb, by simp, hg, by simp, by simp, fun i hi => ?_, fun i j hi hj _ b hb => ?_⟩
  · have hi' : i < n := by simpa using hi
    rw [hv i hi', getElem!_pos _ i hi]
    simp only [List.getElem_replicate]
    exact ⟨GRow.nil .., by simp [Value.ownBlock]⟩
  · rw [hv i (by simpa using hi)] at hb
    cases hb
theorem GMat.rowAt (h : GMat base g w vs M bl) {i : Nat} (hi : i < M.length) : ∃ A c, vs[i]! = .slice A M[i]!.length c ∧ M[i]!.length ≤ c ∧ RI w A M[i]! := (h.row i hi).1.row
theorem GMat.cell (h : GMat base g w vs M bl) {i : Nat} (hi : i < M.length) : w.cell? ((⟨g, 0, none⟩ : Addr).add (i * 1)) = some vs[i]! := by
  rw [Nat.mul_one, add_zero]
  have hi' : i < vs.length := by rw [h.len]; exact hi
  exact cell_blk h.blk (by rw [getElem!_pos vs i hi']; simp [hi'])
theorem GMat.rows (h : GMat base g w vs M bl) (hm : M.length ≤ 9223372036854775807) : RRows w (some ⟨g, 0, none⟩) M := by
  refine row_of_blk h.blk ⟨by rw [h.len]; simp, fun i hi => ?_⟩ hm
  obtain ⟨A, c, e1, e2, e3⟩ := h.rowAt hi
  have hi' : i < vs.length := by rw [h.len]; exact hi
  have e : (vs.drop (i * 1)).take 1 = [vs[i]!] := by
    rw [Nat.mul_one, List.drop_eq_getElem_cons hi', getElem!_pos vs i hi']
    rfl
  rw [e, e1]
  exact ⟨A, c, rfl, e2, e3⟩
end
theorem rowB_of_blk {w : World} {g : Nat} {xs : List Bool} {t : TypeId} (h : w.heap[g]? = some (.cells (vb xs).toArray t (0, 0))) (hm : xs.length ≤ 9223372036854775807) : RowR 1 dB w (some ⟨g, 0, none⟩) xs := by
  refine row_of_blk h ⟨by simp [vb], fun i hi => ?_⟩ hm
  have hi' : i < (vb xs).length := by simpa [vb] using hi
  have e : ((vb xs).drop (i * 1)).take 1 = [.bool xs[i]!] := by
    rw [Nat.mul_one, List.drop_eq_getElem_cons hi', getElem!_pos xs i hi]
    simp [vb]
  rw [e]
  rfl
end Go.Proofs.Ytjggjhgbobmkhaa

/- Matrices of truths: what a pass over constraints does to them (no program in sight). -/
namespace Go.Proofs.Ytjggjhgbobmkhaa
open Go.RowKit
set_option linter.unusedVariables false
set_option linter.unusedSimpArgs false
abbrev Mat := List (List Bool)
def mg (M : Mat) (i o : Nat) : Bool := (M[i]!)[o]!
structure Shape (n c : Nat) (M : Mat) : Prop where
  rows : M.length = n
  cols : ∀ i, i < n → M[i]!.length = c
def LeM (M N : Mat) : Prop := ∀ i o, mg M i o = true → mg N i o = true
theorem LeM.refl (M : Mat) : LeM M M := fun _ _ h => h
theorem LeM.trans {M N O : Mat} (h : LeM M N) (k : LeM N O) : LeM M O := fun i o g => k i o (h i o g)
theorem mg_out {n c : Nat} {M : Mat} (h : Shape n c M) {i o : Nat} (hio : ¬ (i < n ∧ o < c)) : mg M i o = false := by
  unfold mg
  by_cases hi : i < n
  · have hl := h.cols i hi
    rw [List.getElem!_eq_getElem?_getD, List.getElem?_eq_none (by omega)]
    rfl
  · have : M[i]! = [] := by rw [List.getElem!_eq_getElem?_getD, List.getElem?_eq_none (by rw [h.rows]; omega)]; rfl
    rw [this]
    rfl
theorem mat_ext {n c : Nat} {M N : Mat} (hM : Shape n c M) (hN : Shape n c N) (h : ∀ i o, i < n → o < c → mg M i o = mg N i o) : M = N := by
  refine List.ext_getElem (by rw [hM.rows, hN.rows]) fun i h1 h2 => ?_
  have hi : i < n := by rw [← hM.rows]; exact h1
  have e1 : M[i]! = M[i] := getElem!_pos M i h1
  have e2 : N[i]! = N[i] := getElem!_pos N i h2
  have l1 := hM.cols i hi
  have l2 := hN.cols i hi
  rw [e1] at l1
  rw [e2] at l2
  refine List.ext_getElem (by rw [l1, l2]) fun o h3 h4 => ?_
  have := h i o hi (by rw [← l1]; exact h3)
  unfold mg at this
  rw [e1, e2, getElem!_pos _ o h3, getElem!_pos _ o h4] at this
  exact this
theorem mat_eq {n c : Nat} {M N : Mat} (hM : Shape n c M) (hN : Shape n c N) (h1 : LeM M N) (h2 : LeM N M) : M = N :=
  mat_ext hM hN fun i o _ _ => by
    cases h : mg M i o with
    | true => exact (h1 i o h).symm
    | false =>
      cases k : mg N i o with
      | false => rfl
      | true => rw [h2 i o k] at h; cases h
def setT (M : Mat) (i o : Nat) : Mat := M.set i ((M[i]!).set o true)
theorem setT_shape {n c : Nat} {M : Mat} (h : Shape n c M) {i o : Nat} (hi : i < n) : Shape n c (setT M i o) := by
  refine ⟨by simp [setT, h.rows], fun j hj => ?_⟩
  unfold setT
  rw [get_set _ _ _ _ (by rw [h.rows]; exact hj)]
  split
  · rename_i e; subst e; rw [List.length_set]; exact h.cols _ hi
  · exact h.cols j hj
theorem mg_setT {n c : Nat} {M : Mat} (h : Shape n c M) {i o j q : Nat} (hi : i < n) (ho : o < c) : mg (setT M i o) j q = if i = j ∧ o = q then true else mg M j q := by
  by_cases hjq : j < n ∧ q < c
  · unfold mg setT
    rw [get_set _ _ _ _ (by rw [h.rows]; exact hjq.1)]
    by_cases e : i = j
    · subst e
      rw [if_pos rfl]
      have hl := h.cols i hi
      rw [getElem!_pos _ q (by rw [List.length_set, hl]; exact hjq.2), List.getElem_set]
      by_cases e2 : o = q
      · simp [e2]
      · rw [if_neg e2, if_neg (by simp [e2]), getElem!_pos _ q (by rw [hl]; exact hjq.2)]
    · rw [if_neg e, if_neg (by simp [e])]
  · rw [mg_out (setT_shape h hi) hjq, mg_out h hjq, if_neg (by rintro ⟨rfl, rfl⟩; exact hjq ⟨hi, ho⟩)]
/-- A part of a pass: what it made of M is M'; was something new?  P: what the pass is to bring about; Q: what is known of M if nothing was new. -/
structure Tr (n c : Nat) (P : Mat → Prop) (Q : Prop) (M M' : Mat) (b : Bool) : Prop where
  sh : Shape n c M'
  le : LeM M M'
  least : ∀ N, LeM M N → P N → LeM M' N
  no : b = false → M' = M ∧ Q
  yes : b = true → M' ≠ M
section
variable {n c : Nat} {P P2 : Mat → Prop} {Q Q' : Prop} {M M1 M2 : Mat} {b b2 : Bool}
theorem Tr.start (hs : Shape n c M) (hq : Q) : Tr n c P Q M M false := ⟨hs, LeM.refl _, fun _ h _ => h, fun _ => ⟨rfl, hq⟩, nofun⟩
theorem Tr.weak (h : Tr n c P Q M M1 b) (hQ : b = false → M1 = M → Q → Q') : Tr n c P Q' M M1 b := ⟨h.sh, h.le, h.least, fun e => ⟨(h.no e).1, hQ e (h.no e).1 (h.no e).2⟩, h.yes⟩
theorem Tr.step (hM : Shape n c M) (h : Tr n c P Q M M1 b) (k : Tr n c P2 (P2 M1) M1 M2 b2) (hP : ∀ N, LeM M1 N → P N → P2 N) (hQ : Q → P2 M → Q') : Tr n c P Q' M M2 (b || b2) := by
  refine ⟨k.sh, h.le.trans k.le, fun N hN hp => ?_, fun e => ?_, fun e he => ?_⟩
  · have h1 := h.least N hN hp
    exact k.least N h1 (hP N h1 hp)
  · simp only [Bool.or_eq_false_iff] at e
    obtain ⟨e1, q1⟩ := h.no e.1
    obtain ⟨e2, q2⟩ := k.no e.2
    subst e1
    exact ⟨e2, hQ q1 q2⟩
  · subst he
    have e1 : M1 = M2 := mat_eq h.sh hM k.le h.le
    subst e1
    cases hb : b with
    | true => exact h.yes hb rfl
    | false => rw [hb, Bool.false_or] at e; exact k.yes e rfl
theorem Tr.one (hM : Shape n c M) {i o : Nat} (hi : i < n) (ho : o < c) (hno : mg M i o = false) (hP : ∀ N, LeM M N → P N → mg N i o = true) : Tr n c P Q M (setT M i o) true := by
  refine ⟨setT_shape hM hi, fun j q h => by rw [mg_setT hM hi ho]; split <;> first | rfl | exact h, fun N hN hp j q h => ?_, nofun, fun _ e => ?_⟩
  · rw [mg_setT hM hi ho] at h
    split at h
    · rename_i e
      obtain ⟨rfl, rfl⟩ := e
      exact hP N hN hp
    · exact hN j q h
  · have := mg_setT hM hi ho (j := i) (q := o)
    rw [e, if_pos ⟨rfl, rfl⟩, hno] at this
    cases this
/-- What it brings about may be told otherwise. -/
theorem Tr.told (h : Tr n c P Q M M1 b) (hP : ∀ N, LeM M N → P2 N → P N) (hQ : Q → Q') : Tr n c P2 Q' M M1 b := ⟨h.sh, h.le, fun N hN hp => h.least N hN (hP N hN hp), fun e => ⟨(h.no e).1, hQ (h.no e).2⟩, h.yes⟩
end
/-! ### what a constraint asks -/
def flowP (t f : Int) (N : Mat) : Prop := 0 ≤ t → 0 ≤ f → ∀ o, mg N f.toNat o = true → mg N t.toNat o = true
def objP (c : Con) (x : Cell) (N : Mat) : Prop :=
  (c.k = 3 → x.fn = false → flowP c.a x.v N) ∧ (c.k = 4 → x.fn = false → flowP x.v c.b N) ∧
  (c.k = 5 → x.fn = true → flowP c.a x.v N ∧ ∀ k, k < x.args.length → k < c.args.length → flowP x.args[k]! c.args[k]! N)
def srcOf (c : Con) : Nat := (if c.k = 4 then c.a else c.b).toNat
def ruleP (xs : List Cell) (c : Con) (N : Mat) : Prop :=
  (c.k = 1 → mg N c.a.toNat c.b.toNat = true) ∧ (c.k = 2 → flowP c.a c.b N) ∧ (¬ c.k = 1 → ¬ c.k = 2 → ∀ o, o < xs.length → mg N (srcOf c) o = true → objP c xs[o]! N)
def ClosedM (s : Sys) (N : Mat) : Prop := ∀ i, i < s.cons.length → ruleP s.cells s.cons[i]! N
def zeroM (n c : Nat) : Mat := List.replicate n (List.replicate c false)
theorem zeroM_shape (n c : Nat) : Shape n c (zeroM n c) := ⟨by simp [zeroM], fun i hi => by rw [getElem!_pos _ i (by simpa [zeroM] using hi)]; simp [zeroM]⟩
theorem zeroM_le (n c : Nat) (N : Mat) : LeM (zeroM n c) N := fun i o h => by
  have : mg (zeroM n c) i o = false := by
    by_cases hio : i < n ∧ o < c
    · unfold mg zeroM
      rw [getElem!_pos _ i (by simpa using hio.1), List.getElem_replicate, getElem!_pos _ o (by simpa using hio.2), List.getElem_replicate]
    · exact mg_out (zeroM_shape n c) hio
  rw [this] at h
  cases h
/-- The least map that keeps all constraints. -/
structure IsLeast (s : Sys) (M : Mat) : Prop where
  sh : Shape s.vars.toNat s.cells.length M
  closed : ClosedM s M
  least : ∀ N, ClosedM s N → LeM M N
theorem IsLeast.unique {s : Sys} {M N : Mat} (h : IsLeast s M) (k : IsLeast s N) : M = N := mat_eq h.sh k.sh (h.least N k.closed) (k.least M h.closed)
/-- How many truths there are. -/
def cnt (M : Mat) : Nat := (M.map fun r => r.countP id).sum
theorem cnt_le {n c : Nat} {M : Mat} (h : Shape n c M) : cnt M ≤ n * c := by
  have : ∀ l : Mat, (∀ r ∈ l, r.length = c) → (l.map fun r => r.countP id).sum ≤ l.length * c := by
    intro l
    induction l with
    | nil => simp
    | cons r l ih =>
      intro hl
      have h1 := ih fun x hx => hl x (by simp [hx])
      have h2 := List.countP_le_length (p := id) (l := r)
      rw [hl r (by simp)] at h2
      simp only [List.map_cons, List.sum_cons, List.length_cons, Nat.succ_mul]
      omega
  have h1 := this M fun r hr => by
    obtain ⟨i, hi, e⟩ := List.getElem_of_mem hr
    have := h.cols i (by rw [← h.rows]; exact hi)
    rwa [getElem!_pos M i hi, e] at this
  rw [h.rows] at h1
  exact h1
theorem cnt_lt {n c : Nat} {M N : Mat} (hM : Shape n c M) (hN : Shape n c N) (h : LeM M N) (hne : N ≠ M) : cnt M < cnt N := by
  have row : ∀ (a b : List Bool), a.length = b.length → (∀ o : Nat, a[o]! = true → b[o]! = true) → a.countP id ≤ b.countP id ∧ (a ≠ b → a.countP id < b.countP id) := by
    intro a
    induction a with
    | nil => intro b hb _; have : b = [] := List.eq_nil_of_length_eq_zero hb.symm; subst this; simp
    | cons x a ih =>
      intro b hb hle
      cases b with
      | nil => simp at hb
      | cons y b =>
        have h1 := ih b (by simpa using hb) fun o ho => by simpa using hle (o + 1) (by simpa using ho)
        have h0 : x = true → y = true := by simpa using hle 0
        refine ⟨?_, fun hne => ?_⟩
        · cases x <;> cases y <;> simp_all <;> omega
        · by_cases e : a = b
          · subst e
            cases x <;> cases y <;> simp_all
          · have := h1.2 e
            cases x <;> cases y <;> simp_all <;> omega
  have mat : ∀ (k : Mat) (l : Mat), k.length = l.length → (∀ i, i < k.length → k[i]!.length = l[i]!.length) → (∀ i o, mg k i o = true → mg l i o = true) → cnt k ≤ cnt l ∧ (k ≠ l → cnt k < cnt l) := by
    intro k
    induction k with
    | nil => intro l hl _ _; have : l = [] := List.eq_nil_of_length_eq_zero hl.symm; subst this; simp
    | cons x k ih =>
      intro l hl hc hle
      cases l with
      | nil => simp at hl
      | cons y l =>
        have h1 := ih l (by simpa using hl) (fun i hi => by simpa using hc (i + 1) (by simpa using hi)) fun i o ho => by simpa [mg] using hle (i + 1) o (by simpa [mg] using ho)
        have h0 := row x y (by simpa using hc 0 (by simp)) fun o ho => by simpa [mg] using hle 0 o (by simpa [mg] using ho)
        have e1 : cnt (x :: k) = x.countP id + cnt k := by simp [cnt]
        have e2 : cnt (y :: l) = y.countP id + cnt l := by simp [cnt]
        rw [e1, e2]
        refine ⟨by omega, fun hne => ?_⟩
        by_cases e : x = y
        · subst e
          have := h1.2 (fun e => hne (by rw [e]))
          omega
        · have := h0.2 e
          omega
  exact (mat M N (by rw [hM.rows, hN.rows]) (fun i hi => by rw [hM.rows] at hi; rw [hM.cols i hi, hN.cols i hi]) h).2 fun e => hne e.symm
end Go.Proofs.Ytjggjhgbobmkhaa

/- Matrices of truths, in memory; what leaves all but their rows as it was. -/
namespace Go.Proofs.Ytjggjhgbobmkhaa
open Go.RowKit
set_option linter.unusedVariables false
set_option linter.unusedSimpArgs false
/-- All that was there is as it was, but for the blocks of rb. -/
structure Keeps (rb : List Nat) (w w' : World) : Prop where
  os : w'.os = w.os
  tape : w'.tape = w.tape
  output : w'.output = w.output
  size : w.heap.size ≤ w'.heap.size
  block : ∀ k, k < w.heap.size → k ∉ rb → w'.heap[k]? = w.heap[k]?
section
variable {rb : List Nat} {w w1 w2 : World}
theorem Keeps.of (h : Below w.heap.size w w1) : Keeps rb w w1 := ⟨h.os, h.tape, h.output, h.size, fun k hk _ => h.block k hk⟩
theorem Keeps.refl (rb : List Nat) (w : World) : Keeps rb w w := Keeps.of (Below.refl _ _)
theorem Keeps.trans (h : Keeps rb w w1) (k : Keeps rb w1 w2) : Keeps rb w w2 :=
  ⟨k.os.trans h.os, k.tape.trans h.tape, k.output.trans h.output, Nat.le_trans h.size k.size, fun i hi hn => (k.block i (Nat.lt_of_lt_of_le hi h.size) hn).trans (h.block i hi hn)⟩
theorem Keeps.put (h : Keeps rb w w1) {g : Nat} {cs : List Value} {t : TypeId} (hp : Put w1 w2 g cs t) (hg : g ∈ rb) : Keeps rb w w2 :=
  h.trans ⟨hp.grown.os, hp.grown.tape, hp.grown.output, hp.grown.size, fun k hk hn => hp.grown.block k hk (by simp; intro e; subst e; exact hn hg)⟩
theorem Keeps.up (h : Keeps rb w w1) (k : Below w1.heap.size w1 w2) : Keeps rb w w2 := h.trans (Keeps.of k)
theorem Keeps.blk (h : Keeps rb w w1) {g : Nat} {o : Obj} (hb : w.heap[g]? = some o) (hn : g ∉ rb) : w1.heap[g]? = some o := (h.block g (blk_lt hb) hn).trans hb
theorem Keeps.below {w0 : World} {B : Nat} (h : Keeps rb w w1) (hb : Below B w0 w) (hB : B ≤ w.heap.size) (hr : ∀ k ∈ rb, B ≤ k) : Below B w0 w1 :=
  hb.trans ⟨h.os, h.tape, h.output, h.size, fun k hk => h.block k (Nat.lt_of_lt_of_le hk hB) fun hm => by have := hr k hm; omega⟩
end
/-- A matrix: its rows lie in the blocks rb, the row of their values at A. -/
structure BMat (base : Nat) (w : World) (A : Option Addr) (M : Mat) (rb : List Nat) (n nc : Nat) : Prop where
  sh : Shape n nc M
  len : rb.length = n
  cell : ∀ i, i < n → ∃ ad, A = some ad ∧ ad.block ∉ rb ∧ w.cell? (ad.add (i * 1)) = some (.slice (some ⟨rb[i]!, 0, none⟩) nc nc)
  blk : ∀ i, i < n → w.heap[rb[i]!]? = some (.cells (vb M[i]!).toArray 4 (0, 0))
  ge : ∀ k ∈ rb, base ≤ k ∧ k < w.heap.size
  inj : ∀ i j, i < n → j < n → i ≠ j → rb[i]! ≠ rb[j]!
section
variable {base : Nat} {w w1 : World} {A : Option Addr} {M : Mat} {rb : List Nat} {n nc : Nat}
theorem BMat.mem (h : BMat base w A M rb n nc) {i : Nat} (hi : i < n) : rb[i]! ∈ rb := mem_get (by rw [h.len]; exact hi)
theorem BMat.up (h : BMat base w A M rb n nc) (hb : Below w.heap.size w w1) : BMat base w1 A M rb n nc :=
  ⟨h.sh, h.len, fun i hi => let ⟨ad, e, hn, hc⟩ := h.cell i hi; ⟨ad, e, hn, cell_up hb hc⟩, fun i hi => blk_up hb (h.blk i hi), fun k hk => ⟨(h.ge k hk).1, Nat.lt_of_lt_of_le (h.ge k hk).2 hb.size⟩, h.inj⟩
theorem BMat.cells (h : BMat base w A M rb n nc) {i : Nat} (hi : i < n) : ∃ ad, A = some ad ∧ w.cell? (ad.add (i * 1)) = some (.slice (some ⟨rb[i]!, 0, none⟩) nc nc) := let ⟨ad, e, _, hc⟩ := h.cell i hi; ⟨ad, e, hc⟩
theorem BMat.bit (h : BMat base w A M rb n nc) {i o : Nat} (hi : i < n) (ho : o < nc) : w.cell? ((⟨rb[i]!, 0, none⟩ : Addr).add (o * 1)) = some (.bool (mg M i o)) := by
  rw [Nat.mul_one, add_zero]
  have hl := h.sh.cols i hi
  refine cell_blk (h.blk i hi) ?_
  have := List.getElem?_map (f := Value.bool) (l := M[i]!) (i := o)
  simp only [vb, List.getElem?_toArray, List.getElem?_map]
  rw [List.getElem?_eq_getElem (by rw [hl]; exact ho)]
  unfold mg
  rw [getElem!_pos (M[i]!) o (by rw [hl]; exact ho)]
  rfl
theorem BMat.put (h : BMat base w A M rb n nc) {i o : Nat} (hi : i < n) (hp : Put w w1 rb[i]! ((vb M[i]!).set o (.bool true)) 4) : BMat base w1 A (setT M i o) rb n nc := by
  refine ⟨setT_shape h.sh hi, h.len, fun j hj => ?_, fun j hj => ?_, fun k hk => ⟨(h.ge k hk).1, by rw [hp.size]; exact (h.ge k hk).2⟩, h.inj⟩
  · obtain ⟨ad, e, hn, hc⟩ := h.cell j hj
    refine ⟨ad, e, hn, ?_⟩
    refine (World.cell?_of_block ?_).trans hc
    rw [add_block]
    have hlt := World.block_lt_of_cell? w _ hc
    rw [add_block] at hlt
    refine hp.grown.block _ hlt fun e2 => hn ?_
    have e3 : ad.block = rb[i]! := by simpa using e2
    rw [e3]
    exact h.mem hi
  · by_cases e : i = j
    · subst e
      have e2 : (vb M[i]!).set o (.bool true) = vb (setT M i o)[i]! := by
        unfold setT
        rw [get_set _ _ _ _ (by rw [h.sh.rows]; exact hi), if_pos rfl]
        simp [vb, List.map_set]
      rw [← e2]
      exact hp.blk
    · have e2 : (setT M i o)[j]! = M[j]! := by
        unfold setT
        rw [get_set _ _ _ _ (by rw [h.sh.rows]; exact hj), if_neg e]
      rw [e2]
      exact hp.old (h.blk j hj) (fun e3 => h.inj j i hj hi (fun q => e q.symm) e3)
end
end Go.Proofs.Ytjggjhgbobmkhaa
