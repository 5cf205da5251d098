/- Several texts of one claim in one file: E9 E10 EV17 U0 PL03 PK03. -/
import Derived.Test.YtomldckplkecbaaY4
import Derived.Laws.Slices
import Derived.Laws.CopyRow
import Derived.Laws.Bits64b
import Derived.Laws.Shifts
import Derived.Lib.AppendZerosOnto
import Derived.Lib.TrailingZeros
/- Rows appended onto rows; rows of the call's own, written in place. -/
namespace Go.Proofs.Ytomldckplkecbaa
open Go.RowKit
set_option linter.unusedVariables false
set_option linter.unusedSimpArgs false
theorem take_next {α : Type} [Inhabited α] {xs : List α} {i : Nat} (h : i < xs.length) : xs.take (i + 1) = xs.take i ++ [xs[i]!] := by
  rw [getElem!_pos xs i h]
  simp
/-- What is said of one cell each. -/
def OneC {α : Type} (d : Dec α) : Prop := ∀ w cs x, d w cs x → ∀ u ∈ cs, u.oneCell' = true
theorem one_I (k : IntKind) : OneC (dI k) := fun w cs x h u hu => by
  rw [h.1] at hu
  simp at hu
  subst hu
  rfl
theorem one_B : OneC dB := fun w cs x h u hu => by
  rw [show cs = [.bool x] from h] at hu
  simp at hu
  subst hu
  rfl
theorem one_Cell : OneC dCell := fun w cs x ⟨A, c, h, _⟩ u hu => by
  rw [h] at hu
  simp at hu
  rcases hu with rfl | rfl | rfl <;> rfl
theorem one_Con : OneC dCon := fun w cs x ⟨A, c, h, _⟩ u hu => by
  rw [h] at hu
  simp at hu
  rcases hu with rfl | rfl | rfl | rfl <;> rfl
theorem row_flat {α : Type} [Inhabited α] {sz : Nat} {d : Dec α} {w : World} {ad : Addr} {xs : List α} (h : RowR sz d w (some ad) xs) (hd : OneC d) :
    ∃ flat, (∀ j u, flat[j]? = some u → w.cell? (ad.add j) = some u) ∧ Elems sz d w flat xs ∧ ∀ u ∈ flat, u.oneCell' = true := by
  have key : ∀ k, k ≤ xs.length → ∃ flat, (∀ j u, flat[j]? = some u → w.cell? (ad.add j) = some u) ∧ Elems sz d w flat (xs.take k) ∧ ∀ u ∈ flat, u.oneCell' = true := by
    intro k
    induction k with
    | zero => exact fun _ => ⟨[], by simp, by simpa using Elems.nil .., by simp⟩
    | succ k ih =>
      intro hk
      obtain ⟨flat, h1, h2, h3⟩ := ih (by omega)
      obtain ⟨ad', cs, e, hl, hc, hx⟩ := h.2 k (by omega)
      cases e
      refine ⟨flat ++ cs, fun j u hu => ?_, ?_, ?_⟩
      · rcases Nat.lt_or_ge j flat.length with hj | hj
        · rw [List.getElem?_append_left hj] at hu
          exact h1 j u hu
        · rw [List.getElem?_append_right hj] at hu
          have hfl := h2.1
          rw [List.length_take, Nat.min_eq_left (by omega)] at hfl
          have := hc (j - flat.length) u hu
          rwa [show k * sz + (j - flat.length) = j by omega] at this
      · rw [take_next (by omega)]
        exact h2.push hl hx
      · intro u hu
        rcases List.mem_append.1 hu with hu | hu
        · exact h3 u hu
        · exact hd _ _ _ hx u hu
  obtain ⟨flat, h1, h2, h3⟩ := key xs.length (Nat.le_refl _)
  rw [List.take_length] at h2
  exact ⟨flat, h1, h2, h3⟩
section
variable {P : Program} {T : Nat → Option TI} {n : Nat} {Q : Post} {F : Fm} {w : World} {ops : Array Oper} {rest : List Oper} {o : Oper} {K : Fm → Prop} {C : World → Prop}
theorem run_append_none (base : Nat) (t ty e : TypeId) (i : TypeInfo) (size : Nat) (ht : P.underlying t = some (.slice e)) (hi : P.info? e = some i)
    (v : Value) (n : Nat) (xs : List Value) (hown : w.ownsRow base e size v n xs) (cc : Nat) :
    (Builtin.append_ #[t, t] ty #[v, .slice none 0 cc]).run P w = .ok v w := by
  rcases hown.2 with ⟨rfl, rfl⟩ | ⟨g, cap, cur, rfl, _, _, hnc, _⟩
  · simp [Builtin.append_, run_underlying ht, sizeOf, typeInfo, hi, Builtin.lenOf, Builtin.firstCells]
  · simp [Builtin.append_, run_underlying ht, sizeOf, typeInfo, hi, Builtin.lenOf, Builtin.firstCells, hnc, storeCells]
/-- append(v, row...): the row is any that can be read. -/
theorem apr_run (hT : TabOk P T) (e s b : Nat) {α : Type} [Inhabited α] {d : Dec α} {base len : Nat} {v : Value} {flat : List Value} {xs : List α} {B : Option Addr} {cc : Nat} {c : Call} {x y : Operand} {t : TypeId}
    (hown : w.ownsRow base e s v len flat) (hr : RowR s d w B xs) (hd1 : OneC d) (hop : o.op = .call c) (hcal : c.callee = .builtin .append) (hargs : c.args.toList = [x, y]) (htys : c.argTypes.toList = [t, t])
    (hx : ev F x = v) (hy : ev F y = .slice B xs.length cc) (h1 : appT T t e s b = true) (hs0 : Nat.blt 0 s = true)
    (hbig : (len + xs.length) * b ≤ 140737488355328) (h63 : len + xs.length ≤ 9223372036854775807) (hbase : base ≤ w.heap.size) :
    ∃ A cap w1 news, (execOp (ev F) o).run P w = .ok (.value (.slice A (len + xs.length) cap)) w1 ∧ Elems s d w news xs ∧ w1.ownsRow base e s (.slice A (len + xs.length) cap) (len + xs.length) (flat ++ news) ∧ w.grownBy w1 v.ownBlock ∧ ((Value.slice A (len + xs.length) cap).ownBlock = v.ownBlock ∨ (Value.slice A (len + xs.length) cap).ownBlock = some w.heap.size) := by
  obtain ⟨hu, j, z, hj, hz, hs, hby, hzs⟩ := appT_ok hT h1
  obtain ⟨callee, ⟨args⟩, ⟨tys⟩⟩ := c
  simp only at hcal hargs htys
  subst hcal hargs htys
  cases B with
  | none =>
    have hxs : xs = [] := by
      cases xs with
      | nil => rfl
      | cons a l => obtain ⟨_, _, e, _⟩ := hr.2 0 (by simp); cases e
    subst hxs
    have hform : ∃ A cap, v = .slice A len cap := by
      rcases hown.2 with ⟨rfl, h0⟩ | ⟨g', cap, cur, rfl, _⟩
      · exact ⟨none, 0, by rw [h0]⟩
      · exact ⟨_, cap, rfl⟩
    obtain ⟨A, cap, rfl⟩ := hform
    refine ⟨A, cap, w, [], ?_, Elems.nil .., by simpa using hown, grown_refl _ _, .inl rfl⟩
    have h := run_append_none (P := P) (w := w) base t o.type e j s hu hj _ len flat hown cc
    simp [execOp, hop, resolve, invoke, builtin, hx, hy, h]
  | some ad =>
    obtain ⟨news, hn1, hn2, hn3⟩ := row_flat hr hd1
    obtain ⟨v', w1, hr', h2, h3, _, h5⟩ := run_append_own_at (P := P) w base t o.type e j z s b hu hj hz hs hby hzs (nblt hs0) v len flat hown ad xs.length cc news hn2.1 hn1 hn3 h63 hbig hbase
    have hform : ∃ A cap, v' = .slice A (len + xs.length) cap := by
      rcases h2.2 with ⟨rfl, h0⟩ | ⟨g', cap, cur, rfl, _⟩
      · exact ⟨none, 0, by rw [h0]⟩
      · exact ⟨_, cap, rfl⟩
    obtain ⟨A, cap, rfl⟩ := hform
    refine ⟨A, cap, w1, news, ?_, hn2, h2, h3, h5⟩
    simp [execOp, hop, resolve, invoke, builtin, hx, hy, hr']
theorem wl_apr (hT : TabOk P T) (e s b : Nat) {α : Type} [Inhabited α] {d : Dec α} {base len : Nat} {v : Value} {flat : List Value} {xs : List α} {B : Option Addr} {cc : Nat} {c : Call} {x y : Operand} {t : TypeId}
    (hown : w.ownsRow base e s v len flat) (hr : RowR s d w B xs) (hd1 : OneC d) (hop : o.op = .call c) (hcal : c.callee = .builtin .append) (hargs : c.args.toList = [x, y]) (htys : c.argTypes.toList = [t, t])
    (hx : ev F x = v) (hy : ev F y = .slice B xs.length cc) (h1 : appT T t e s b = true) (hs0 : Nat.blt 0 s = true) (hg : o.guard = none) {dd : Nat} (hd : o.dst = some dd) (hn : Nat.blt dd n = true)
    (hbig : (len + xs.length) * b ≤ 140737488355328) (h63 : len + xs.length ≤ 9223372036854775807) (hbase : base ≤ w.heap.size)
    (k : ∀ A cap w1 news, Elems s d w news xs → w1.ownsRow base e s (.slice A (len + xs.length) cap) (len + xs.length) (flat ++ news) → w.grownBy w1 v.ownBlock → ((Value.slice A (len + xs.length) cap).ownBlock = v.ownBlock ∨ (Value.slice A (len + xs.length) cap).ownBlock = some w.heap.size) →
      wl P n ops rest Q (upd F dd (.slice A (len + xs.length) cap)) w1) : wl P n ops (o :: rest) Q F w := by
  obtain ⟨A, cap, w1, news, hr, h2, h3, h4, h5⟩ := apr_run hT e s b hown hr hd1 hop hcal hargs htys hx hy h1 hs0 hbig h63 hbase
  exact wl_val hg hd hn hr (k A cap w1 news h2 h3 h4 h5)
theorem wa_apr (hT : TabOk P T) (e s b : Nat) {K : Fm → World → Prop} {α : Type} [Inhabited α] {d : Dec α} {base len : Nat} {v : Value} {flat : List Value} {xs : List α} {B : Option Addr} {cc : Nat} {c : Call} {x y : Operand} {t : TypeId}
    (hown : w.ownsRow base e s v len flat) (hr : RowR s d w B xs) (hd1 : OneC d) (hop : o.op = .call c) (hcal : c.callee = .builtin .append) (hargs : c.args.toList = [x, y]) (htys : c.argTypes.toList = [t, t])
    (hx : ev F x = v) (hy : ev F y = .slice B xs.length cc) (h1 : appT T t e s b = true) (hs0 : Nat.blt 0 s = true) {dd : Nat} (hd : o.dst = some dd) (hn : Nat.blt dd n = true)
    (hbig : (len + xs.length) * b ≤ 140737488355328) (h63 : len + xs.length ≤ 9223372036854775807) (hbase : base ≤ w.heap.size)
    (k : ∀ A cap w1 news, Elems s d w news xs → w1.ownsRow base e s (.slice A (len + xs.length) cap) (len + xs.length) (flat ++ news) → w.grownBy w1 v.ownBlock → ((Value.slice A (len + xs.length) cap).ownBlock = v.ownBlock ∨ (Value.slice A (len + xs.length) cap).ownBlock = some w.heap.size) →
      K (upd F dd (.slice A (len + xs.length) cap)) w1) : wa P n o F w K := by
  obtain ⟨A, cap, w1, news, hr, h2, h3, h4, h5⟩ := apr_run hT e s b hown hr hd1 hop hcal hargs htys hx hy h1 hs0 hbig h63 hbase
  exact ⟨_, _, hr, by rw [hd]; exact hn, by rw [hd]; exact k A cap w1 news h2 h3 h4 h5⟩
end
/-! ### an element of a row of the call's own is written -/
theorem Elems.put {α : Type} [Inhabited α] {sz : Nat} {d : Dec α} {w : World} {flat : List Value} {xs : List α} {i k : Nat} {u : Value} {x' : α} (h : Elems sz d w flat xs) (hi : i < xs.length) (hk : k < sz)
    (hx : ∀ cs, cs.length = sz → d w cs xs[i]! → d w (cs.set k u) x') : Elems sz d w (flat.set (i * sz + k) u) (xs.set i x') := by
  refine ⟨by simpa using h.1, fun j hj => ?_⟩
  have hj' : j < xs.length := by simpa using hj
  have hjl : j * sz + sz ≤ flat.length := by rw [h.1, ← Nat.succ_mul]; exact Nat.mul_le_mul_right _ hj'
  by_cases e : j = i
  · subst e
    have e1 : ((flat.set (j * sz + k) u).drop (j * sz)).take sz = ((flat.drop (j * sz)).take sz).set k u := by
      rw [List.drop_set, if_neg (by omega), List.take_set]
      congr 1
      omega
    have e2 : (xs.set j x')[j]! = x' := by rw [getElem!_pos (xs.set j x') j hj]; simp
    rw [e1, e2]
    exact hx _ (by simp; omega) (h.2 j hj')
  · have e1 : ((flat.set (i * sz + k) u).drop (j * sz)).take sz = (flat.drop (j * sz)).take sz := by
      rw [List.drop_set]
      split
      · rfl
      · rename_i hlt
        rw [List.take_set, List.set_eq_of_length_le]
        rcases Nat.lt_or_ge i j with hl | hl
        · have : (i + 1) * sz ≤ j * sz := Nat.mul_le_mul_right _ hl
          rw [Nat.succ_mul] at this
          omega
        · have : (j + 1) * sz ≤ i * sz := Nat.mul_le_mul_right _ (by omega)
          rw [Nat.succ_mul] at this
          simp
          omega
    have e2 : (xs.set i x')[j]! = xs[j]! := by rw [getElem!_pos (xs.set i x') j hj, getElem!_pos xs j hj', List.getElem_set_ne (by omega)]
    rw [e1, e2]
    exact h.2 j hj'
theorem GRow.cur {α : Type} [Inhabited α] {sz : Nat} {d : Dec α} {e : TypeId} {base : Nat} {w : World} {A : Option Addr} {n c : Nat} {xs : List α} {bs : List Nat} (h : GRow sz d e base w (.slice A n c) xs bs) (h0 : 0 < xs.length) :
    ∃ (g : Nat) (cur : List Value), A = some ⟨g, 0, none⟩ ∧ base ≤ g ∧ w.heap[g]? = some (.cells cur.toArray e (0, 0)) ∧ xs.length * sz ≤ cur.length ∧
      ∀ w1 i k u x' bs', i < xs.length → k < sz → Put w w1 g (cur.set (i * sz + k) u) e → (∀ w' cs, (∀ b ∈ bs', w'.heap[b]? = w.heap[b]?) → cs.length = sz → d w' cs xs[i]! → d w' (cs.set k u) x') → (∀ b ∈ bs', (base ≤ b ∧ b < w.heap.size) ∧ b ≠ g) → GRow sz d e base w1 (.slice A n c) (xs.set i x') (bs ++ bs') := by
  obtain ⟨flat, h1, h2⟩ := h.own
  rcases h1.2 with ⟨he, hz⟩ | ⟨g, cap, cur, hv, hbg, hg, hnc, hcm, hcs, htake⟩
  · omega
  have hv' := hv
  injection hv' with e1 e2 e3
  subst e1 e2 e3
  have hcl : xs.length * sz ≤ cur.size := by rw [hcs]; exact Nat.mul_le_mul_right _ hnc
  refine ⟨g, cur.toList, rfl, hbg, by simpa using hg, by simpa using hcl, ?_⟩
  intro w1 i k u x' bs' hi hk hp hx hbs
  have hbne : ∀ b ∈ bs, b ≠ g := fun b hb e => h.ne b hb (by rw [e]; rfl)
  have hall : ∀ b ∈ bs ++ bs', (base ≤ b ∧ b < w.heap.size) ∧ b ≠ g := fun b hb => by
    rcases List.mem_append.1 hb with hb | hb
    · exact ⟨h.lt b hb, hbne b hb⟩
    · exact hbs b hb
  have same : ∀ b ∈ bs ++ bs', w1.heap[b]? = w.heap[b]? := fun b hb => hp.grown.block b (hall b hb).1.2 (by simpa using (hall b hb).2)
  refine ⟨⟨flat.set (i * sz + k) u, ⟨by simpa using h1.1, .inr ⟨g, c, (cur.toList.set (i * sz + k) u).toArray, by simp, hbg, hp.blk, by simpa using hnc, hcm, by simpa using hcs, ?_⟩⟩, fun w' hw' => ?_⟩, fun b hb => ⟨(hall b hb).1.1, by rw [hp.size]; exact (hall b hb).1.2⟩, fun b hb => by simpa [Value.ownBlock] using (hall b hb).2⟩
  · simp only [List.length_set]
    rw [← htake, List.take_set]
  · refine (h2 w' fun b hb => (hw' b (by simp [hb])).trans (same b (by simp [hb]))).put hi hk fun cs hl hd => hx w' cs (fun b hb => (hw' b (by simp [hb])).trans (same b (by simp [hb]))) hl hd
end Go.Proofs.Ytomldckplkecbaa

/- Steps: cuts of rows, shifts, and, or, copies of elements of several cells, of made rows. -/
namespace Go.Proofs.Ytomldckplkecbaa
open Go.RowKit
set_option linter.unusedVariables false
set_option linter.unusedSimpArgs false
theorem addr_add0 (a : Addr) : a.add 0 = a := by unfold Addr.add; simp
def cutA (A : Option Addr) (m c s : Nat) : Option Addr := if c = m then A else A.map (·.add (m * s))
section
variable {P : Program} {T : Nat → Option TI} {n : Nat} {F : Fm} {w : World} {ops : Array Oper} {rest : List Oper} {o : Oper} {K : Fm → Prop} {C : World → Prop}
theorem elem_of {t e : Nat} (hu : P.underlying t = some (.slice e)) : P.underlying t = some (.slice (P.elem t)) := by
  have : P.elem t = e := by simp [Program.elem, hu]
  rw [this]; exact hu
theorem sliceH_run (hT : TabOk P T) (e s : Nat) {t : TypeId} {x y : Operand} {A : Option Addr} {l c : Nat} {ki : IntKind} {h : Int} (hop : o.op = .slice t x none (some y) none) (hx : ev F x = .slice A l c) (hy : ev F y = .int ki h) (h1 : sliceT T t e s = true) (h0 : 0 ≤ h) (hc : h ≤ c) :
    (execOp (ev F) o).run P w = .ok (.value (.slice A h.toNat c)) w := by
  obtain ⟨hu, hs⟩ := sliceT_ok (w := w) hT h1
  have he : P.elem t = e := by simp [Program.elem, hu]
  have hr := run_slice_h (P := P) (w := w) t A l c (elem_of hu) ki h h0 hc
  rw [he, hs] at hr
  have e1 : sliced A 0 h.toNat c s = .slice A h.toNat c := by
    unfold sliced
    cases A <;> simp [addr_add0]
  simp only [Result.andThen, e1] at hr
  have hr2 := run_sliceAt_slice (P := P) (w := w) t (.slice A l c) none (some (.int ki h)) none (elem_of hu)
  rw [hr] at hr2
  simp [execOp, hop, hx, hy, hr2]
theorem sliceL_run (hT : TabOk P T) (e s : Nat) {t : TypeId} {x y : Operand} {A : Option Addr} {l c : Nat} {ki : IntKind} {h : Int} (hop : o.op = .slice t x (some y) none none) (hx : ev F x = .slice A l c) (hy : ev F y = .int ki h) (h1 : sliceT T t e s = true) (h0 : 0 ≤ h) (hc : h ≤ l) :
    (execOp (ev F) o).run P w = .ok (.value (.slice (cutA A h.toNat c s) (l - h.toNat) (c - h.toNat))) w := by
  obtain ⟨hu, hs⟩ := sliceT_ok (w := w) hT h1
  have he : P.elem t = e := by simp [Program.elem, hu]
  have hr := run_slice_l (P := P) (w := w) t A l c (elem_of hu) ki h h0 hc
  rw [he, hs] at hr
  simp only [Result.andThen, sliced] at hr
  have hr2 := run_sliceAt_slice (P := P) (w := w) t (.slice A l c) (some (.int ki h)) none none (elem_of hu)
  rw [hr] at hr2
  simp [execOp, hop, hx, hy, hr2, cutA]
theorem wq_slH (hT : TabOk P T) (e s : Nat) {t : TypeId} {x y : Operand} {A : Option Addr} {l c : Nat} {ki : IntKind} {h : Int} (hop : o.op = .slice t x none (some y) none) (hx : ev F x = .slice A l c) (hy : ev F y = .int ki h) (h1 : sliceT T t e s = true) (hg : o.guard = none) {d : Nat} (hd : o.dst = some d) (hn : Nat.blt d n = true) (h0 : 0 ≤ h) (hc : h ≤ c)
    (k : wq P n ops C rest K (upd F d (.slice A h.toNat c))) : wq P n ops C (o :: rest) K F := wq_val hg hd hn (fun _ _ => sliceH_run hT e s hop hx hy h1 h0 hc) k
theorem wq_slL (hT : TabOk P T) (e s : Nat) {t : TypeId} {x y : Operand} {A : Option Addr} {l c : Nat} {ki : IntKind} {h : Int} (hop : o.op = .slice t x (some y) none none) (hx : ev F x = .slice A l c) (hy : ev F y = .int ki h) (h1 : sliceT T t e s = true) (hg : o.guard = none) {d : Nat} (hd : o.dst = some d) (hn : Nat.blt d n = true) (h0 : 0 ≤ h) (hc : h ≤ l)
    (k : wq P n ops C rest K (upd F d (.slice (cutA A h.toNat c s) (l - h.toNat) (c - h.toNat)))) : wq P n ops C (o :: rest) K F := wq_val hg hd hn (fun _ _ => sliceL_run hT e s hop hx hy h1 h0 hc) k
end
theorem RowR.take {α : Type} [Inhabited α] {sz : Nat} {d : Dec α} {w : World} {A : Option Addr} {xs : List α} (h : RowR sz d w A xs) (k : Nat) : RowR sz d w A (xs.take k) := by
  refine ⟨Nat.le_trans (by simp; omega) h.1, fun i hi => ?_⟩
  have hi' : i < xs.length := by simp at hi; omega
  obtain ⟨ad, cs, e1, e2, e3, e4⟩ := h.2 i hi'
  refine ⟨ad, cs, e1, e2, e3, ?_⟩
  rw [getElem!_pos _ i hi, List.getElem_take]
  rwa [getElem!_pos xs i hi'] at e4
theorem RowR.drop {α : Type} [Inhabited α] {sz : Nat} {d : Dec α} {w : World} {A : Option Addr} {xs : List α} (h : RowR sz d w A xs) (m c : Nat) (hc : xs.length ≤ c) : RowR sz d w (cutA A m c sz) (xs.drop m) := by
  refine ⟨Nat.le_trans (by simp) h.1, fun i hi => ?_⟩
  have hi' : m + i < xs.length := by simp at hi; omega
  obtain ⟨ad, cs, e1, e2, e3, e4⟩ := h.2 (m + i) hi'
  subst e1
  refine ⟨ad.add (m * sz), cs, by unfold cutA; rw [if_neg (by omega)]; rfl, e2, fun j u hu => ?_, ?_⟩
  · rw [add_add, show m * sz + (i * sz + j) = (m + i) * sz + j by rw [Nat.add_mul]; omega]
    exact e3 j u hu
  · rw [getElem!_pos _ i hi, List.getElem_drop]
    rwa [getElem!_pos xs (m + i) hi'] at e4
section
variable {P : Program} {T : Nat → Option TI} {n : Nat} {Q : Post} {F : Fm} {w : World} {ops : Array Oper} {rest : List Oper} {o : Oper} {K : Fm → Prop} {C : World → Prop}
theorem wl_slH (hT : TabOk P T) (e s : Nat) {t : TypeId} {x y : Operand} {A : Option Addr} {l c : Nat} {ki : IntKind} {h : Int} (hop : o.op = .slice t x none (some y) none) (hx : ev F x = .slice A l c) (hy : ev F y = .int ki h) (h1 : sliceT T t e s = true) (hg : o.guard = none) {d : Nat} (hd : o.dst = some d) (hn : Nat.blt d n = true) (h0 : 0 ≤ h) (hc : h ≤ c)
    (k : wl P n ops rest Q (upd F d (.slice A h.toNat c)) w) : wl P n ops (o :: rest) Q F w := wl_val hg hd hn (sliceH_run hT e s hop hx hy h1 h0 hc) k
theorem wl_slL (hT : TabOk P T) (e s : Nat) {t : TypeId} {x y : Operand} {A : Option Addr} {l c : Nat} {ki : IntKind} {h : Int} (hop : o.op = .slice t x (some y) none none) (hx : ev F x = .slice A l c) (hy : ev F y = .int ki h) (h1 : sliceT T t e s = true) (hg : o.guard = none) {d : Nat} (hd : o.dst = some d) (hn : Nat.blt d n = true) (h0 : 0 ≤ h) (hc : h ≤ l)
    (k : wl P n ops rest Q (upd F d (.slice (cutA A h.toNat c s) (l - h.toNat) (c - h.toNat))) w) : wl P n ops (o :: rest) Q F w := wl_val hg hd hn (sliceL_run hT e s hop hx hy h1 h0 hc) k
/-! ### shifts, bits -/
theorem shr_run {x y : Operand} {xt yt : TypeId} {k yk : IntKind} {a b : Int} (hop : o.op = .binOp .shr xt x y yt) (hx : ev F x = .int k a) (hy : ev F y = .int yk b) (h0 : 0 ≤ b) : (execOp (ev F) o).run P w = .ok (.value (.int k (a / 2 ^ min b.toNat k.bits))) w := by
  simp [execOp, hop, hx, hy, eqGuard, binOp, shift_shr_any k yk a b h0]
theorem shl_run {x y : Operand} {xt yt : TypeId} {k yk : IntKind} {a b : Int} (hop : o.op = .binOp .shl xt x y yt) (hx : ev F x = .int k a) (hy : ev F y = .int yk b) (h0 : 0 ≤ b) : (execOp (ev F) o).run P w = .ok (.value (.int k (k.wrap (a * 2 ^ min b.toNat k.bits)))) w := by
  simp [execOp, hop, hx, hy, eqGuard, binOp, shift_shl_any k yk a b h0]
def isBit : BinOp → Bool
  | .and | .or | .xor | .andNot => true
  | _ => false
theorem bits_run {op : BinOp} {x y : Operand} {xt yt : TypeId} {k : IntKind} {a b : Int} (hop : o.op = .binOp op xt x y yt) (hx : ev F x = .int k a) (hy : ev F y = .int k b) (hb : isBit op = true) : (execOp (ev F) o).run P w = .ok (.value (.int k (bits op k a b))) w := by
  cases op <;> simp only [isBit, Bool.false_eq_true] at hb <;> simp [execOp, hop, hx, hy, eqGuard, binOp, intBits_and, intBits_or, intBits_xor, intBits_andNot]
theorem wl_shr {x y : Operand} {xt yt : TypeId} {k yk : IntKind} {a b r : Int} (hr : a / 2 ^ min b.toNat k.bits = r) (hop : o.op = .binOp .shr xt x y yt) (hx : ev F x = .int k a) (hy : ev F y = .int yk b) (h0 : 0 ≤ b) (hg : o.guard = none) {d : Nat} (hd : o.dst = some d) (hn : Nat.blt d n = true)
    (kk : wl P n ops rest Q (upd F d (.int k r)) w) : wl P n ops (o :: rest) Q F w := wl_val hg hd hn (by rw [shr_run hop hx hy h0, hr]) kk
theorem wl_shl {x y : Operand} {xt yt : TypeId} {k yk : IntKind} {a b r : Int} (hr : k.wrap (a * 2 ^ min b.toNat k.bits) = r) (hop : o.op = .binOp .shl xt x y yt) (hx : ev F x = .int k a) (hy : ev F y = .int yk b) (h0 : 0 ≤ b) (hg : o.guard = none) {d : Nat} (hd : o.dst = some d) (hn : Nat.blt d n = true)
    (kk : wl P n ops rest Q (upd F d (.int k r)) w) : wl P n ops (o :: rest) Q F w := wl_val hg hd hn (by rw [shl_run hop hx hy h0, hr]) kk
theorem wl_bit {op : BinOp} {x y : Operand} {xt yt : TypeId} {k : IntKind} {a b r : Int} (hr : bits op k a b = r) (hop : o.op = .binOp op xt x y yt) (hx : ev F x = .int k a) (hy : ev F y = .int k b) (hb : isBit op = true) (hg : o.guard = none) {d : Nat} (hd : o.dst = some d) (hn : Nat.blt d n = true)
    (kk : wl P n ops rest Q (upd F d (.int k r)) w) : wl P n ops (o :: rest) Q F w := wl_val hg hd hn (by rw [bits_run hop hx hy hb, hr]) kk
theorem wl_mulk {x y : Operand} {xt yt : TypeId} {k : IntKind} {a b r : Int} (hr : k.wrap (a * b) = r) (hop : o.op = .binOp .mul xt x y yt) (hx : ev F x = .int k a) (hy : ev F y = .int k b) (hg : o.guard = none) {d : Nat} (hd : o.dst = some d) (hn : Nat.blt d n = true)
    (kk : wl P n ops rest Q (upd F d (.int k r)) w) : wl P n ops (o :: rest) Q F w := wl_mulw hop hx hy hg hd hn (by rw [hr]; exact kk)
theorem wl_addr {x y : Operand} {xt yt : TypeId} {k : IntKind} {a b r : Int} (hr : k.wrap (a + b) = r) (hop : o.op = .binOp .add xt x y yt) (hx : ev F x = .int k a) (hy : ev F y = .int k b) (hg : o.guard = none) {d : Nat} (hd : o.dst = some d) (hn : Nat.blt d n = true)
    (kk : wl P n ops rest Q (upd F d (.int k r)) w) : wl P n ops (o :: rest) Q F w := wl_addw hop hx hy hg hd hn (by rw [hr]; exact kk)
theorem wl_subr {x y : Operand} {xt yt : TypeId} {k : IntKind} {a b r : Int} (hr : k.wrap (a - b) = r) (hop : o.op = .binOp .sub xt x y yt) (hx : ev F x = .int k a) (hy : ev F y = .int k b) (hg : o.guard = none) {d : Nat} (hd : o.dst = some d) (hn : Nat.blt d n = true)
    (kk : wl P n ops rest Q (upd F d (.int k r)) w) : wl P n ops (o :: rest) Q F w := wl_subw hop hx hy hg hd hn (by rw [hr]; exact kk)
theorem wl_neg {x : Operand} {xt : TypeId} {k : IntKind} {a r : Int} (hr : k.wrap (-a) = r) (hop : o.op = .unOp .neg xt x) (hx : ev F x = .int k a) (hg : o.guard = none) {d : Nat} (hd : o.dst = some d) (hn : Nat.blt d n = true)
    (kk : wl P n ops rest Q (upd F d (.int k r)) w) : wl P n ops (o :: rest) Q F w := wl_val hg hd hn (by
  have : (execOp (ev F) o).run P w = .ok (.value (.int k (k.wrap (-a)))) w := by simp [execOp, hop, hx, Op.unary, Op.intArith]
  rw [this, hr]) kk
/-! ### copies -/
theorem copy_run (hT : TabOk P T) (e s b : Nat) {t t2 t' : TypeId} {c : Call} {x y : Operand} {g off dl dc sl sc m : Nat} {a : Addr} {cur : List Value} (cs : List Value) (hb : w.heap[g]? = some (.cells cur.toArray t' (0, 0))) (hop : o.op = .call c) (hcal : c.callee = .builtin .copy) (hargs : c.args.toList = [x, y]) (htys : c.argTypes.toList = [t, t2])
    (hx : ev F x = .slice (some ⟨g, off, none⟩) dl dc) (hy : ev F y = .slice (some a) sl sc) (h1 : appT T t e s b = true) (hm : m = min sl dl)
    (hl : cs.length = m * s) (hsrc : ∀ j v, cs[j]? = some v → w.cell? (a.add j) = some v) (hfit : off + cs.length ≤ cur.length) (hone : ∀ v ∈ cs, v.oneCell' = true) :
    ∃ w1, (execOp (ev F) o).run P w = .ok (.value (goInt m)) w1 ∧ Put w w1 g (cur.take off ++ cs ++ cur.drop (off + cs.length)) t' := by
  obtain ⟨hu, j, z, hj, hz, hs, hby, hzs⟩ := appT_ok hT h1
  obtain ⟨callee, ⟨args⟩, ⟨tys⟩⟩ := c
  simp only at hcal hargs htys
  subst hcal hargs htys
  have hl2 := run_loadCells_list (P := P) w a cs hsrc
  have hst := run_storeCells_at P g off t' cs 0 cur.toArray w hb (by simpa using hfit) hone
  rw [hl] at hl2
  have hmm : Nat.min sl dl = m := hm.symm
  refine ⟨_, ?_, ⟨by simp [World.setRow], setRow_heap w g cur.toArray _ t' _ hb, ⟨rfl, rfl, rfl, by simp [World.setRow], fun k _ hk => setRow_other w g k _ (fun e => hk (by simp [e]))⟩⟩⟩
  simp [execOp, hop, resolve, invoke, builtin, hx, hy, Builtin.copy_, run_underlying hu, Builtin.lenOf, Builtin.firstCells, sizeOf, typeInfo, hj, hs, hmm, hl2, hst]
theorem wl_cp (hT : TabOk P T) (e s b : Nat) {t t2 t' : TypeId} {c : Call} {x y : Operand} {g off dl dc sl sc m : Nat} {a : Addr} {cur : List Value} (cs : List Value) (hb : w.heap[g]? = some (.cells cur.toArray t' (0, 0))) (hop : o.op = .call c) (hcal : c.callee = .builtin .copy) (hargs : c.args.toList = [x, y]) (htys : c.argTypes.toList = [t, t2])
    (hx : ev F x = .slice (some ⟨g, off, none⟩) dl dc) (hy : ev F y = .slice (some a) sl sc) (h1 : appT T t e s b = true) (hm : m = min sl dl) (hg : o.guard = none) {d : Nat} (hd : o.dst = some d) (hn : Nat.blt d n = true)
    (hl : cs.length = m * s) (hsrc : ∀ j v, cs[j]? = some v → w.cell? (a.add j) = some v) (hfit : off + cs.length ≤ cur.length) (hone : ∀ v ∈ cs, v.oneCell' = true)
    (k : ∀ w1, Put w w1 g (cur.take off ++ cs ++ cur.drop (off + cs.length)) t' → wl P n ops rest Q (upd F d (goInt m)) w1) : wl P n ops (o :: rest) Q F w := by
  obtain ⟨w1, hr, hp⟩ := copy_run hT e s b cs hb hop hcal hargs htys hx hy h1 hm hl hsrc hfit hone
  exact wl_val hg hd hn hr (k w1 hp)
end
end Go.Proofs.Ytomldckplkecbaa

/- The walk's steps on maps of numbers. -/
namespace Go.Proofs.Ytomldckplkecbaa
open Go.RowKit
set_option linter.unusedVariables false
set_option linter.unusedSimpArgs false
section
variable {P : Program} {T : Nat → Option TI} {n : Nat} {Q : Post} {F : Fm} {w : World} {ops : Array Oper} {rest : List Oper} {o : Oper}
theorem wl_mkM {t : TypeId} (hop : o.op = .makeMap t none) (hg : o.guard = none) {d : Nat} (hd : o.dst = some d) (hn : Nat.blt d n = true) (k : ∀ b w1, b = w.heap.size → w1 = w.alloc (.map #[] 0) → Below w.heap.size w w1 → wl P n ops rest Q (upd F d (.map (some b))) w1) : wl P n ops (o :: rest) Q F w := by
  refine wl_val hg hd hn ?_ (k _ _ rfl rfl ?_)
  · simp [execOp, hop, run_makeMap]
  · have h := World.grownBy_alloc w (.map #[] 0) none
    exact ⟨h.os, h.tape, h.output, h.size, fun j hj => h.block j hj (by simp)⟩
theorem wl_mu {t : TypeId} {m x y : Operand} {b : Nat} {key val : Value} {R : World → Prop} (h : ∃ w', (Instr.mapUpdate t (.map (some b)) key val).run P w = .ok () w' ∧ R w') (hop : o.op = .mapUpdate t m x y) (hm : ev F m = .map (some b)) (hx : ev F x = key) (hy : ev F y = val) (hg : o.guard = none) (hd : o.dst = none)
    (k : ∀ w', R w' → wl P n ops rest Q F w') : wl P n ops (o :: rest) Q F w := by
  obtain ⟨w', hr, hR⟩ := h
  refine wl_skp hg hd ?_ (k w' hR)
  simp [execOp, hop, hm, hx, hy, hr]
theorem wl_lenM {t : TypeId} {c : Call} {x : Operand} {b : Nat} {v : Value} (h : ∀ ty, (Builtin.len_ #[t] ty #[.map (some b)]).run P w = .ok v w) (hop : o.op = .call c) (hcal : c.callee = .builtin .len) (hargs : c.args.toList = [x]) (htys : c.argTypes.toList = [t]) (hx : ev F x = .map (some b)) (hg : o.guard = none) {d : Nat} (hd : o.dst = some d) (hn : Nat.blt d n = true)
    (k : wl P n ops rest Q (upd F d v) w) : wl P n ops (o :: rest) Q F w := by
  refine wl_val hg hd hn ?_ k
  obtain ⟨callee, ⟨args⟩, ⟨tys⟩⟩ := c
  simp only at hcal hargs htys
  subst hcal hargs htys
  simp [execOp, hop, resolve, invoke, builtin, hx, h]
theorem wl_lkM {t : TypeId} {m x : Operand} {b : Nat} {key v : Value} (h : (Instr.lookup t (.map (some b)) key true).run P w = .ok v w) (hop : o.op = .lookup t m x true) (hm : ev F m = .map (some b)) (hx : ev F x = key) (hg : o.guard = none) {d : Nat} (hd : o.dst = some d) (hn : Nat.blt d n = true)
    (k : wl P n ops rest Q (upd F d v) w) : wl P n ops (o :: rest) Q F w := by
  refine wl_val hg hd hn ?_ k
  simp [execOp, hop, hm, hx, h]
theorem wl_rngM {t : TypeId} {m : Operand} {b : Nat} {v : Value} {w1 : World} (h : (Instr.range t (.map (some b))).run P w = .ok v w1) (hop : o.op = .range t m) (hm : ev F m = .map (some b)) (hg : o.guard = none) {d : Nat} (hd : o.dst = some d) (hn : Nat.blt d n = true)
    (k : wl P n ops rest Q (upd F d v) w1) : wl P n ops (o :: rest) Q F w := by
  refine wl_val hg hd hn ?_ k
  simp [execOp, hop, hm, h]
theorem wl_nxM {it : Operand} {a v : Value} {w1 : World} (h : (Instr.next a false o.type).run P w = .ok v w1) (hop : o.op = .next it false) (hm : ev F it = a) (hg : o.guard = none) {d : Nat} (hd : o.dst = some d) (hn : Nat.blt d n = true)
    (k : wl P n ops rest Q (upd F d v) w1) : wl P n ops (o :: rest) Q F w := by
  refine wl_val hg hd hn ?_ k
  simp [execOp, hop, hm, h]
theorem wl_enM {it : Operand} {a v : Value} (h : (Instr.entry a).run P w = .ok v w) (hop : o.op = .entry it) (hm : ev F it = a) (hg : o.guard = none) {d : Nat} (hd : o.dst = some d) (hn : Nat.blt d n = true)
    (k : wl P n ops rest Q (upd F d v) w) : wl P n ops (o :: rest) Q F w := by
  refine wl_val hg hd hn ?_ k
  simp [execOp, hop, hm, h]
end
/-- A loop by itself: what follows it is walked behind it. -/
theorem wc_ends {P : Program} {n : Nat} {Q : Post} {F : Fm} {w : World} {X : Type} (id : Nat) (rr : Fm → World → Prop) (S : X → List (Nat × Value)) (R : X → World → Prop) {c : Code} (h : wc P n c ⟨fun _ _ => False, rr, fun i F' w' => i = id ∧ ∃ x, holds F' (S x) ∧ R x w'⟩ F w) (hr : ∀ F w, rr F w → Q.r F w) (k : ∀ x G w, R x w → Q.x id (upds G (S x)) w) : wc P n c Q F w :=
  wc_mono h (fun _ _ h => h.elim) hr (fun i F' w' h => by
    obtain ⟨rfl, x, h1, h2⟩ := h
    have := k x F' w' h2
    rwa [upds_of_holds h1] at this)
theorem setTy : SetT Try.prog 66 3 4 := ⟨Try.underlying66, Try.underlying3, Try.underlying4⟩
theorem numTy : NumT Try.prog 64 3 3 := ⟨Try.underlying64, Try.underlying3, Try.underlying3⟩
abbrev ISet := SetM Try.prog 3 4
abbrev INum := NumM Try.prog 3 3
theorem zeroI (w : World) : (zeroValue 3).run Try.prog w = .ok (.int .i64 0) w := by kernel_rfl
end Go.Proofs.Ytomldckplkecbaa

/- Small things that many texts use. -/
namespace Go.Proofs.Ytomldckplkecbaa
open Go.RowKit
set_option linter.unusedVariables false
set_option linter.unusedSimpArgs false
def vb (xs : List Bool) : List Value := xs.map Value.bool
theorem fold_take {α β : Type} [Inhabited α] (f : β → α → β) (z : β) {xs : List α} {i : Nat} (h : i < xs.length) : (xs.take (i + 1)).foldl f z = f ((xs.take i).foldl f z) xs[i]! := by
  have e : xs.take (i + 1) = xs.take i ++ [xs[i]!] := by
    rw [getElem!_pos xs i h]
    simp
  rw [e, List.foldl_append]
  rfl
theorem fold_all {α β : Type} (f : β → α → β) (z : β) {xs : List α} {i : Nat} (h : ¬ i < xs.length) : (xs.take i).foldl f z = xs.foldl f z := by rw [List.take_of_length_le (by omega)]
theorem below_of_grown {w w1 : World} (h : w.grownBy w1 none) : Below w.heap.size w w1 := ⟨h.os, h.tape, h.output, h.size, fun k hk => h.block k hk nofun⟩
theorem rowBE {w : World} {A : Option Addr} {xs : List Bool} (h : RowR 1 dB w A xs) (i : Nat) (hi : i < xs.length) : ∃ ad, A = some ad ∧ w.cell? (ad.add (i * 1)) = some (.bool xs[i]!) := by
  obtain ⟨ad, cs, e, l, hc, hd⟩ := row_at h i hi
  rw [show cs = [.bool xs[i]!] from hd] at hc
  exact ⟨ad, e, hc.1⟩
theorem gints_push {base : Nat} {w w1 : World} {v v' : Value} {ys : List Int} {flat : List Value} {y : Int} (h : GInts base w v ys) (hflat : ∀ w', (∀ b ∈ ([] : List Nat), w'.heap[b]? = w.heap[b]?) → Elems 1 (dI .i64) w' flat ys) (hown : w1.ownsRow base 3 1 v' (ys.length + 1) (flat ++ [.int .i64 y])) (hg : w.grownBy w1 v.ownBlock)
    (hob : v'.ownBlock = v.ownBlock ∨ v'.ownBlock = some w.heap.size) (hy : -9223372036854775808 ≤ y ∧ y ≤ 9223372036854775807) : GInts base w1 v' (ys ++ [y]) := by
  have := h.push hflat hown hg hob rfl (bs' := []) (x := y) (fun w' _ => ⟨rfl, hy⟩) (by simp) (by simp)
  simpa using this
theorem mem_own {v : Value} {b : Nat} (h : b ∈ v.ownBlock.toList) : v.ownBlock = some b := by simpa using h
end Go.Proofs.Ytomldckplkecbaa

/- Plain: sets of numbers in blocks of 64: what is in them; how they come to be one list; joined, made less, told. -/
namespace Go.Proofs.Ytomldckplkecbaa
set_option linter.unusedVariables false
set_option linter.unusedSimpArgs false
structure Blk where
  a : Int
  w : Nat
deriving Inhabited, DecidableEq
/-- Is a number in it? -/
def memB (bs : List Blk) (n : Nat) : Bool := bs.any fun b => decide (b.a = ((n / 64 : Nat) : Int)) && b.w.testBit (n % 64)
structure WFB (bs : List Blk) : Prop where
  up : ∀ i j, i < j → j < bs.length → bs[i]!.a < bs[j]!.a
  rng : ∀ b ∈ bs, 0 ≤ b.a ∧ b.a < 144115188075855872 ∧ 0 < b.w ∧ b.w < 18446744073709551616
theorem WFB.nil : WFB [] := ⟨fun i j _ h => by simp at h, by simp⟩
theorem mem_getB {bs : List Blk} {i : Nat} (h : i < bs.length) : bs[i]! ∈ bs := by rw [getElem!_pos bs i h]; exact List.getElem_mem h
theorem get_of_mem {bs : List Blk} {b : Blk} (h : b ∈ bs) : ∃ i, i < bs.length ∧ bs[i]! = b := by
  obtain ⟨i, hi, e⟩ := List.getElem_of_mem h
  exact ⟨i, hi, by rw [getElem!_pos bs i hi]; exact e⟩
theorem memB_iff {bs : List Blk} {n : Nat} : memB bs n = true ↔ ∃ b ∈ bs, b.a = ((n / 64 : Nat) : Int) ∧ b.w.testBit (n % 64) = true := by
  simp [memB, List.any_eq_true]
theorem memB_nil (n : Nat) : memB [] n = false := rfl
theorem memB_app (xs ys : List Blk) (n : Nat) : memB (xs ++ ys) n = (memB xs n || memB ys n) := by simp [memB]
theorem memB_one (b : Blk) (n : Nat) : memB [b] n = (decide (b.a = ((n / 64 : Nat) : Int)) && b.w.testBit (n % 64)) := by simp [memB]
theorem WFB.inj {bs : List Blk} (h : WFB bs) {i j : Nat} (hi : i < bs.length) (hj : j < bs.length) (e : bs[i]!.a = bs[j]!.a) : i = j := by
  rcases Nat.lt_trichotomy i j with h1 | h1 | h1
  · have := h.up i j h1 hj; omega
  · exact h1
  · have := h.up j i h1 hi; omega
/-- The block at a place tells of its numbers. -/
theorem WFB.at_ {bs : List Blk} (h : WFB bs) {i n : Nat} (hi : i < bs.length) (e : bs[i]!.a = ((n / 64 : Nat) : Int)) : memB bs n = bs[i]!.w.testBit (n % 64) := by
  rw [Bool.eq_iff_iff, memB_iff]
  refine ⟨fun ⟨b, hb, e2, hw⟩ => ?_, fun hw => ⟨_, mem_getB hi, e, hw⟩⟩
  obtain ⟨j, hj, rfl⟩ := get_of_mem hb
  rw [h.inj hi hj (e.trans e2.symm)]
  exact hw
theorem memB_none {bs : List Blk} {n : Nat} (h : ∀ i, i < bs.length → bs[i]!.a ≠ ((n / 64 : Nat) : Int)) : memB bs n = false := by
  rw [Bool.eq_false_iff]
  intro hm
  obtain ⟨b, hb, e, _⟩ := memB_iff.1 hm
  obtain ⟨i, hi, rfl⟩ := get_of_mem hb
  exact h i hi e
theorem bit_some {w : Nat} (h0 : 0 < w) (h1 : w < 18446744073709551616) : ∃ i, i < 64 ∧ w.testBit i = true := by
  obtain ⟨i, hi⟩ := Nat.exists_testBit_of_ne_zero (by omega : w ≠ 0)
  refine ⟨i, ?_, hi⟩
  rcases Nat.lt_or_ge i 64 with h | h
  · exact h
  · have : w < 2 ^ i := Nat.lt_of_lt_of_le h1 (Nat.pow_le_pow_right (n := 2) (by omega) h)
    rw [Nat.testBit_lt_two_pow this] at hi
    cases hi
theorem bit_hi {w : Nat} (h1 : w < 18446744073709551616) {i : Nat} (h : 64 ≤ i) : w.testBit i = false :=
  Nat.testBit_lt_two_pow (Nat.lt_of_lt_of_le h1 (Nat.pow_le_pow_right (n := 2) (by omega) h))
/-- Lists of one order that have the same blocks are one. -/
theorem sorted_eq : ∀ {xs ys : List Blk}, (∀ i j, i < j → j < xs.length → xs[i]!.a < xs[j]!.a) → (∀ i j, i < j → j < ys.length → ys[i]!.a < ys[j]!.a) → (∀ b, b ∈ xs ↔ b ∈ ys) → xs = ys
  | [], [], _, _, _ => rfl
  | [], y :: ys, _, _, h => by have := (h y).2 (by simp); cases this
  | x :: xs, [], _, _, h => by have := (h x).1 (by simp); cases this
  | x :: xs, y :: ys, h1, h2, h => by
    have tail : ∀ {z : Blk} {zs : List Blk}, (∀ i j, i < j → j < (z :: zs).length → (z :: zs)[i]!.a < (z :: zs)[j]!.a) → ∀ b ∈ zs, z.a < b.a := fun {z zs} hz b hb => by
      obtain ⟨j, hj, rfl⟩ := get_of_mem hb
      have := hz 0 (j + 1) (by omega) (by simpa using hj)
      simpa using this
    have e : x = y := by
      have m1 := (h x).1 (by simp)
      have m2 := (h y).2 (by simp)
      rcases List.mem_cons.1 m1 with e | m1
      · exact e
      · rcases List.mem_cons.1 m2 with e | m2
        · exact e.symm
        · have := tail h2 x m1; have := tail h1 y m2; omega
    subst e
    have e2 : xs = ys := by
      refine sorted_eq (fun i j hij hj => by simpa using h1 (i + 1) (j + 1) (by omega) (by simpa using hj)) (fun i j hij hj => by simpa using h2 (i + 1) (j + 1) (by omega) (by simpa using hj)) fun b => ⟨fun hb => ?_, fun hb => ?_⟩
      · rcases List.mem_cons.1 ((h b).1 (by simp [hb])) with e | m
        · subst e; have := tail h1 b hb; omega
        · exact m
      · rcases List.mem_cons.1 ((h b).2 (by simp [hb])) with e | m
        · subst e; have := tail h2 b hb; omega
        · exact m
    rw [e2]
theorem num_div (a : Int) (h : 0 ≤ a) (i : Nat) (hi : i < 64) : (((64 * a.toNat + i) / 64 : Nat) : Int) = a ∧ (64 * a.toNat + i) % 64 = i := by omega
/-- Sets with the same numbers are one list. -/
theorem canonB {xs ys : List Blk} (hx : WFB xs) (hy : WFB ys) (h : ∀ n, memB xs n = memB ys n) : xs = ys := by
  have half : ∀ {xs ys : List Blk}, WFB xs → WFB ys → (∀ n, memB xs n = memB ys n) → ∀ b ∈ xs, b ∈ ys := fun {xs ys} hx hy h b hb => by
    have hr := hx.rng b hb
    obtain ⟨i, hi, hw⟩ := bit_some hr.2.2.1 hr.2.2.2
    have hn := num_div b.a hr.1 i hi
    have hm : memB xs (64 * b.a.toNat + i) = true := memB_iff.2 ⟨b, hb, hn.1.symm, by rw [hn.2]; exact hw⟩
    rw [h] at hm
    obtain ⟨c, hc, e, _⟩ := memB_iff.1 hm
    rw [hn.1] at e
    have : b.w = c.w := by
      refine Nat.eq_of_testBit_eq fun k => ?_
      rcases Nat.lt_or_ge k 64 with hk | hk
      · have hn := num_div b.a hr.1 k hk
        obtain ⟨p, hp, ep⟩ := get_of_mem hb
        obtain ⟨q, hq, eq⟩ := get_of_mem hc
        have h1 := hx.at_ hp (n := 64 * b.a.toNat + k) (by rw [ep]; exact hn.1.symm)
        have h2 := hy.at_ hq (n := 64 * b.a.toNat + k) (by rw [eq, e]; exact hn.1.symm)
        rw [ep, hn.2] at h1
        rw [eq, hn.2] at h2
        rw [← h1, ← h2, h]
      · rw [bit_hi hr.2.2.2 hk, bit_hi (hy.rng c hc).2.2.2 hk]
    have : b = c := by cases b; cases c; simp_all
    rw [this]
    exact hc
  exact sorted_eq hx.up hy.up fun b => ⟨half hx hy h b, half hy hx (fun n => (h n).symm) b⟩
theorem snoc_get (xs : List Blk) (x : Blk) {j : Nat} (h : j < xs.length + 1) : (xs ++ [x])[j]! = if j < xs.length then xs[j]! else x := by
  rw [getElem!_pos (xs ++ [x]) j (by simpa using h), List.getElem_append]
  split
  · rename_i h1; rw [getElem!_pos xs j h1]
  · simp
/-- One more, behind all. -/
theorem WFB.snoc {xs : List Blk} {x : Blk} (h : WFB xs) (hx : ∀ i, i < xs.length → xs[i]!.a < x.a) (hr : 0 ≤ x.a ∧ x.a < 144115188075855872 ∧ 0 < x.w ∧ x.w < 18446744073709551616) : WFB (xs ++ [x]) := by
  refine ⟨fun i j hij hj => ?_, fun b hb => ?_⟩
  · have hj' : j < xs.length + 1 := by simpa using hj
    rw [snoc_get _ _ (by omega), snoc_get _ _ hj', if_pos (by omega)]
    split
    · exact h.up i j hij (by assumption)
    · exact hx i (by omega)
  · rcases List.mem_append.1 hb with hb | hb
    · exact h.rng b hb
    · rw [List.mem_singleton.1 hb]; exact hr
/-! ### One more number -/
theorem testBit_pow (k j : Nat) : (2 ^ k).testBit j = decide (k = j) := by rw [Nat.testBit_two_pow]
/-- Its block is there. -/
theorem add_there {bs : List Blk} (h : WFB bs) {i n : Nat} (hi : i < bs.length) (e : bs[i]!.a = ((n / 64 : Nat) : Int)) :
    WFB (bs.set i ⟨bs[i]!.a, bs[i]!.w ||| 2 ^ (n % 64)⟩) ∧ ∀ m, memB (bs.set i ⟨bs[i]!.a, bs[i]!.w ||| 2 ^ (n % 64)⟩) m = (memB bs m || decide (m = n)) := by
  have gs : ∀ j, j < bs.length → (bs.set i ⟨bs[i]!.a, bs[i]!.w ||| 2 ^ (n % 64)⟩)[j]! = if i = j then ⟨bs[i]!.a, bs[i]!.w ||| 2 ^ (n % 64)⟩ else bs[j]! := fun j hj => by
    rw [getElem!_pos _ j (by simpa using hj), List.getElem_set]
    split
    · rfl
    · rw [getElem!_pos bs j hj]
  have ga : ∀ j, j < bs.length → (bs.set i ⟨bs[i]!.a, bs[i]!.w ||| 2 ^ (n % 64)⟩)[j]!.a = bs[j]!.a := fun j hj => by
    rw [gs j hj]
    split
    · rename_i e; rw [e]
    · rfl
  have hw : WFB (bs.set i ⟨bs[i]!.a, bs[i]!.w ||| 2 ^ (n % 64)⟩) := by
    refine ⟨fun j k hjk hk => ?_, fun b hb => ?_⟩
    · have hk' : k < bs.length := by simpa using hk
      rw [ga j (by omega), ga k hk']
      exact h.up j k hjk hk'
    · obtain ⟨j, hj, rfl⟩ := get_of_mem hb
      have hj' : j < bs.length := by simpa using hj
      rw [gs j hj']
      split
      · have hr := h.rng _ (mem_getB hi)
        have h1 : bs[i]!.w ||| 2 ^ (n % 64) < 2 ^ 64 := Nat.or_lt_two_pow hr.2.2.2 (Nat.pow_lt_pow_right (by omega) (Nat.mod_lt _ (by omega)))
        have h2 : bs[i]!.w ≤ bs[i]!.w ||| 2 ^ (n % 64) := Nat.left_le_or
        exact ⟨hr.1, hr.2.1, by show 0 < bs[i]!.w ||| _; omega, h1⟩
      · exact h.rng _ (mem_getB hj')
  refine ⟨hw, fun m => ?_⟩
  by_cases hm : ((m / 64 : Nat) : Int) = ((n / 64 : Nat) : Int)
  · have hl : i < (bs.set i ⟨bs[i]!.a, bs[i]!.w ||| 2 ^ (n % 64)⟩).length := by simpa using hi
    rw [hw.at_ hl (n := m) (by rw [ga i hi, e, hm]), h.at_ hi (n := m) (by rw [e, hm]), gs i hi, if_pos rfl]
    show (bs[i]!.w ||| 2 ^ (n % 64)).testBit (m % 64) = _
    rw [Nat.testBit_or, testBit_pow]
    congr 1
    rw [decide_eq_decide]
    omega
  · have hd : decide (m = n) = false := by rw [decide_eq_false_iff_not]; intro e2; exact hm (by rw [e2])
    rw [hd, Bool.or_false, Bool.eq_iff_iff, memB_iff, memB_iff]
    constructor
    · rintro ⟨b, hb, e1, e2⟩
      obtain ⟨j, hj, rfl⟩ := get_of_mem hb
      have hj' : j < bs.length := by simpa using hj
      have hne : i ≠ j := fun q => by subst q; rw [ga i hi] at e1; exact hm (e1.symm.trans e)
      rw [gs j hj', if_neg hne] at e1 e2
      exact ⟨_, mem_getB hj', e1, e2⟩
    · rintro ⟨b, hb, e1, e2⟩
      obtain ⟨j, hj, rfl⟩ := get_of_mem hb
      have hne : i ≠ j := fun q => by subst q; exact hm (e1.symm.trans e)
      have := gs j hj
      rw [if_neg hne] at this
      exact ⟨_, by rw [← this]; exact mem_getB (by simpa using hj), e1, e2⟩
theorem insB_get (bs : List Blk) (i : Nat) (x : Blk) (hi : i ≤ bs.length) {j : Nat} (hj : j < bs.length + 1) : (bs.take i ++ x :: bs.drop i)[j]! = if j < i then bs[j]! else if j = i then x else bs[j - 1]! := by
  have hl : (bs.take i ++ x :: bs.drop i).length = bs.length + 1 := by simp; omega
  rw [getElem!_pos _ j (by rw [hl]; exact hj), List.getElem_append]
  by_cases h : j < i
  · rw [dif_pos (by simp; omega), if_pos h, getElem!_pos bs j (by omega)]
    simp
  · rw [dif_neg (by simp; omega), if_neg h]
    by_cases e : j = i
    · subst e
      simp [Nat.min_eq_left hi]
    · rw [if_neg e, getElem!_pos bs (j - 1) (by omega)]
      have : j - (bs.take i).length = (j - i - 1) + 1 := by simp; omega
      simp only [this, List.getElem_cons_succ, List.getElem_drop]
      congr 1
      omega
/-- It isn't there. -/
theorem add_new {bs : List Blk} (h : WFB bs) {i n : Nat} (hi : i ≤ bs.length) (hlo : ∀ j, j < i → bs[j]!.a < ((n / 64 : Nat) : Int)) (hhi : ∀ j, i ≤ j → j < bs.length → ((n / 64 : Nat) : Int) < bs[j]!.a) (hn : n < 9223372036854775808) :
    WFB (bs.take i ++ ⟨((n / 64 : Nat) : Int), 2 ^ (n % 64)⟩ :: bs.drop i) ∧ (∀ m, memB (bs.take i ++ ⟨((n / 64 : Nat) : Int), 2 ^ (n % 64)⟩ :: bs.drop i) m = (memB bs m || decide (m = n))) ∧ memB bs n = false := by
  have g := @insB_get bs i ⟨((n / 64 : Nat) : Int), 2 ^ (n % 64)⟩ hi
  have hl : (bs.take i ++ ⟨((n / 64 : Nat) : Int), 2 ^ (n % 64)⟩ :: bs.drop i).length = bs.length + 1 := by simp; omega
  refine ⟨⟨fun j k hjk hk => ?_, fun b hb => ?_⟩, fun m => ?_, memB_none fun j hj e => ?_⟩
  · rw [hl] at hk
    rw [@g j (by omega), @g k hk]
    by_cases h1 : k < i
    · rw [if_pos h1, if_pos (by omega)]
      exact h.up j k hjk (by omega)
    · rw [if_neg h1]
      by_cases h2 : k = i
      · rw [if_pos h2, if_pos (by omega)]
        exact hlo j (by omega)
      · rw [if_neg h2]
        by_cases h3 : j < i
        · rw [if_pos h3]
          exact h.up j (k - 1) (by omega) (by omega)
        · rw [if_neg h3]
          by_cases h4 : j = i
          · rw [if_pos h4]
            exact hhi (k - 1) (by omega) (by omega)
          · rw [if_neg h4]
            exact h.up (j - 1) (k - 1) (by omega) (by omega)
  · rcases List.mem_append.1 hb with hb | hb
    · exact h.rng b (List.mem_of_mem_take hb)
    · rcases List.mem_cons.1 hb with rfl | hb
      · have h2 : 2 ^ (n % 64) < 2 ^ 64 := Nat.pow_lt_pow_right (by omega) (Nat.mod_lt _ (by omega))
        exact ⟨by show (0 : Int) ≤ ((n / 64 : Nat) : Int); omega, by show ((n / 64 : Nat) : Int) < _; omega, Nat.two_pow_pos _, h2⟩
      · exact h.rng b (List.mem_of_mem_drop hb)
  · have e : memB bs m = (memB (bs.take i) m || memB (bs.drop i) m) := by rw [← memB_app, List.take_append_drop]
    have e2 : (⟨((n / 64 : Nat) : Int), 2 ^ (n % 64)⟩ : Blk) :: bs.drop i = [⟨((n / 64 : Nat) : Int), 2 ^ (n % 64)⟩] ++ bs.drop i := rfl
    rw [e2, memB_app, memB_app, memB_one, e]
    have e3 : (decide (((n / 64 : Nat) : Int) = ((m / 64 : Nat) : Int)) && (2 ^ (n % 64)).testBit (m % 64)) = decide (m = n) := by
      rw [testBit_pow, ← Bool.decide_and, decide_eq_decide]
      omega
    rw [e3]
    cases memB (bs.take i) m <;> cases memB (bs.drop i) m <;> simp
  · rcases Nat.lt_or_ge j i with h1 | h1
    · have := hlo j h1; omega
    · have := hhi j h1 hj; omega
end Go.Proofs.Ytomldckplkecbaa

/- Plain: the bits of a word, in order; a set's numbers, in order; sets joined; what another one hasn't. -/
namespace Go.Proofs.Ytomldckplkecbaa
set_option linter.unusedVariables false
set_option linter.unusedSimpArgs false
/-! ### A word's bits -/
def bitsOf (w : Nat) : List Nat := (List.range 64).filter fun i => w.testBit i
theorem bitsOf_zero : bitsOf 0 = [] := by simp [bitsOf]
theorem mem_bitsOf {w i : Nat} : i ∈ bitsOf w ↔ i < 64 ∧ w.testBit i = true := by simp [bitsOf]
theorem testBit_low (k m j : Nat) : (2 ^ k * (2 * m + 1)).testBit j = if j < k then false else if j = k then true else m.testBit (j - k - 1) := by
  rw [Nat.mul_comm, Nat.testBit_mul_two_pow]
  by_cases h : j < k
  · rw [if_pos h]
    have : decide (k ≤ j) = false := by simp; omega
    rw [this]; rfl
  · rw [if_neg h]
    have : decide (k ≤ j) = true := by simp; omega
    rw [this, Bool.true_and]
    by_cases e : j = k
    · subst e; simp
    · rw [if_neg e]
      obtain ⟨d, hd⟩ : ∃ d, j - k = d + 1 := ⟨j - k - 1, by omega⟩
      rw [hd, Nat.testBit_succ]
      have : (2 * m + 1) / 2 = m := by omega
      rw [this]
      congr 1
/-- The lowest bit is taken out. -/
theorem low_out (k m : Nat) : (2 ^ k * (2 * m + 1)) &&& (2 ^ k * (2 * m + 1) - 1) = 2 ^ k * (2 * m) := by
  refine Nat.eq_of_testBit_eq fun j => ?_
  have hp := Nat.two_pow_pos k
  have e : 2 ^ k * (2 * m + 1) - 1 = 2 ^ k * (2 * m) + (2 ^ k - 1) := by
    rw [Nat.mul_add, Nat.mul_one]; omega
  rw [Nat.testBit_and, testBit_low, e, Nat.testBit_two_pow_mul_add _ (by omega), Nat.mul_comm (2 ^ k) (2 * m), Nat.testBit_mul_two_pow]
  by_cases h : j < k
  · rw [if_pos h]
    have : decide (k ≤ j) = false := by simp; omega
    rw [this]; simp
  · rw [if_neg h, if_neg h]
    have : decide (k ≤ j) = true := by simp; omega
    rw [this, Bool.true_and]
    by_cases e : j = k
    · subst e; simp
    · rw [if_neg e]
      obtain ⟨d, hd⟩ : ∃ d, j - k = d + 1 := ⟨j - k - 1, by omega⟩
      rw [hd, Nat.testBit_succ]
      have e2 : (2 * m) / 2 = m := by omega
      rw [e2, show d + 1 - 1 = d from rfl]
      simp
theorem filter_eq_cons {p q : Nat → Bool} : ∀ {l : List Nat} {k : Nat}, l.Pairwise (· < ·) → k ∈ l → p k = true → (∀ j, j < k → p j = false) → (∀ j, q j = (p j && decide (j ≠ k))) → l.filter p = k :: l.filter q
  | [], k, _, hk, _, _, _ => by cases hk
  | a :: l, k, hs, hk, h1, h2, h3 => by
    rcases List.mem_cons.1 hk with e | hk
    · subst e
      have : l.filter p = l.filter q := List.filter_congr fun x hx => by
        have := List.rel_of_pairwise_cons hs hx
        rw [h3]
        have : decide (x ≠ k) = true := by simp; omega
        rw [this, Bool.and_true]
      have hq : q k = false := by rw [h3]; simp
      rw [List.filter_cons_of_pos h1, List.filter_cons_of_neg (by rw [hq]; simp), this]
    · have hlt := List.rel_of_pairwise_cons hs hk
      have hp := h2 a hlt
      have hq : q a = false := by rw [h3, hp]; rfl
      rw [List.filter_cons_of_neg (by rw [hp]; simp), List.filter_cons_of_neg (by rw [hq]; simp)]
      exact filter_eq_cons (List.Pairwise.of_cons hs) hk h1 h2 h3
theorem bitsOf_step {w : Nat} (h0 : w ≠ 0) (h1 : w < 18446744073709551616) : bitsOf w = Lib.ctz 64 w :: bitsOf (w &&& (w - 1)) ∧ Lib.ctz 64 w < 64 ∧ w &&& (w - 1) < w := by
  obtain ⟨m, hm, hk⟩ := Lib.ctzFrom_spec 64 w (by omega) h1
  have hc : Lib.ctz 64 w = Lib.ctzFrom 64 w := by unfold Lib.ctz; rw [if_neg h0]
  rw [hc]
  generalize Lib.ctzFrom 64 w = k at hm hk
  have hlt : w &&& (w - 1) < w := by rw [hm, low_out, Nat.mul_add]; have := Nat.two_pow_pos k; omega
  refine ⟨?_, hk, hlt⟩
  unfold bitsOf
  refine filter_eq_cons (List.pairwise_lt_range) (by simpa using hk) ?_ ?_ ?_
  · rw [hm, testBit_low]; simp
  · intro j hj; rw [hm, testBit_low, if_pos hj]
  · intro j
    rw [hm, low_out, testBit_low, Nat.mul_comm (2 ^ k) (2 * m), Nat.testBit_mul_two_pow]
    by_cases h : j < k
    · rw [if_pos h]
      have : decide (k ≤ j) = false := by simp; omega
      rw [this]; rfl
    · rw [if_neg h]
      have : decide (k ≤ j) = true := by simp; omega
      rw [this, Bool.true_and]
      by_cases e : j = k
      · subst e; simp
      · rw [if_neg e]
        obtain ⟨d, hd⟩ : ∃ d, j - k = d + 1 := ⟨j - k - 1, by omega⟩
        rw [hd, Nat.testBit_succ]
        have e2 : (2 * m) / 2 = m := by omega
        have e4 : decide (j ≠ k) = true := by simp [e]
        rw [e2, e4, Bool.and_true, show d + 1 - 1 = d from rfl]
/-! ### A set's numbers -/
def numsOf (b : Blk) : List Int := (bitsOf b.w).map fun (i : Nat) => 64 * b.a + (i : Int)
def numsB (bs : List Blk) : List Int := bs.flatMap numsOf
theorem numsB_snoc (xs : List Blk) (x : Blk) : numsB (xs ++ [x]) = numsB xs ++ numsOf x := by simp [numsB]
theorem mem_numsB {bs : List Blk} (h : WFB bs) {x : Int} : x ∈ numsB bs ↔ 0 ≤ x ∧ memB bs x.toNat = true := by
  unfold numsB
  rw [List.mem_flatMap, memB_iff]
  constructor
  · rintro ⟨b, hb, hx⟩
    obtain ⟨i, hi, rfl⟩ := List.mem_map.1 hx
    have hi := mem_bitsOf.1 hi
    have hr := h.rng b hb
    have e : (64 * b.a + (i : Int)).toNat = 64 * b.a.toNat + i := by omega
    have hn := num_div b.a hr.1 i hi.1
    refine ⟨by omega, b, hb, ?_, ?_⟩
    · rw [e]; exact hn.1.symm
    · rw [e, hn.2]; exact hi.2
  · rintro ⟨h0, b, hb, e1, e2⟩
    refine ⟨b, hb, List.mem_map.2 ⟨x.toNat % 64, mem_bitsOf.2 ⟨Nat.mod_lt _ (by omega), e2⟩, by omega⟩⟩
theorem numsOf_up (b : Blk) : (numsOf b).Pairwise (· < ·) := by
  unfold numsOf bitsOf
  refine List.Pairwise.map _ (fun a c h => ?_) ((List.pairwise_lt_range (n := 64)).filter _)
  show 64 * b.a + (a : Int) < 64 * b.a + (c : Int)
  omega
theorem numsOf_rng {b : Blk} {x : Int} (h : x ∈ numsOf b) : 64 * b.a ≤ x ∧ x < 64 * b.a + 64 := by
  obtain ⟨i, hi, rfl⟩ := List.mem_map.1 h
  have := (mem_bitsOf.1 hi).1
  omega
theorem up_tail {z : Blk} {zs : List Blk} (hz : ∀ i j, i < j → j < (z :: zs).length → (z :: zs)[i]!.a < (z :: zs)[j]!.a) : (∀ b ∈ zs, z.a < b.a) ∧ ∀ i j, i < j → j < zs.length → zs[i]!.a < zs[j]!.a := by
  refine ⟨fun b hb => ?_, fun i j hij hj => by simpa using hz (i + 1) (j + 1) (by omega) (by simpa using hj)⟩
  obtain ⟨j, hj, rfl⟩ := get_of_mem hb
  simpa using hz 0 (j + 1) (by omega) (by simpa using hj)
theorem numsB_up : ∀ {bs : List Blk}, (∀ i j, i < j → j < bs.length → bs[i]!.a < bs[j]!.a) → (numsB bs).Pairwise (· < ·)
  | [], _ => List.Pairwise.nil
  | b :: bs, h => by
    obtain ⟨h1, h2⟩ := up_tail h
    show (numsOf b ++ numsB bs).Pairwise (· < ·)
    rw [List.pairwise_append]
    refine ⟨numsOf_up b, numsB_up h2, fun x hx y hy => ?_⟩
    obtain ⟨c, hc, hy⟩ := List.mem_flatMap.1 hy
    have := h1 c hc
    have := numsOf_rng hx
    have := numsOf_rng hy
    omega
theorem bitsOf_len (w : Nat) : (bitsOf w).length ≤ 64 := by
  have := List.length_filter_le (fun i => w.testBit i) (List.range 64)
  simpa [bitsOf] using this
theorem numsB_len : ∀ bs : List Blk, (numsB bs).length ≤ 64 * bs.length
  | [] => by simp [numsB]
  | b :: bs => by
    have h1 := numsB_len bs
    have h2 := bitsOf_len b.w
    have e : (numsB (b :: bs)).length = (bitsOf b.w).length + (numsB bs).length := by simp [numsB, numsOf]
    simp only [List.length_cons]
    omega
/-! ### Joined -/
structure JInv (s t : List Blk) (i k : Nat) (out : List Blk) (more : Bool) : Prop where
  wf : WFB out
  hi : i ≤ s.length
  hk : k ≤ t.length
  mem : ∀ n, memB out n = (memB (s.take i) n || memB (t.take k) n)
  lo : ∀ j, j < out.length → (∀ p, i ≤ p → p < s.length → out[j]!.a < s[p]!.a) ∧ (∀ p, k ≤ p → p < t.length → out[j]!.a < t[p]!.a)
  len : out.length ≤ i + k
  more_ : more = !decide (out = s.take i)
  st : ∀ j, j < i → ∀ p, k ≤ p → p < t.length → s[j]!.a < t[p]!.a
theorem JInv.start (s t : List Blk) : JInv s t 0 0 [] false := ⟨WFB.nil, Nat.zero_le _, Nat.zero_le _, fun n => rfl, fun j h => by simp at h, by simp, by simp, fun j h => by omega⟩
theorem take_nextB {bs : List Blk} {i : Nat} (h : i < bs.length) : bs.take (i + 1) = bs.take i ++ [bs[i]!] := by
  rw [getElem!_pos bs i h]; simp
theorem app_one_eq {xs ys : List Blk} {x y : Blk} : xs ++ [x] = ys ++ [y] ↔ xs = ys ∧ x = y := by
  constructor
  · intro h
    have := List.append_inj' h rfl
    exact ⟨this.1, by simpa using this.2⟩
  · rintro ⟨rfl, rfl⟩; rfl
section
variable {s t out : List Blk} {i k : Nat} {more : Bool}
theorem JInv.left (hs : WFB s) (ht : WFB t) (h : JInv s t i k out more) (hi : i < s.length) (hk : k = t.length ∨ k < t.length ∧ s[i]!.a < t[k]!.a) : JInv s t (i + 1) k (out ++ [s[i]!]) more := by
  have hlt : ∀ p, k ≤ p → p < t.length → s[i]!.a < t[p]!.a := fun p h1 h2 => by
    rcases hk with e | ⟨h3, h4⟩
    · omega
    · rcases Nat.lt_or_ge k p with h5 | h5
      · have := ht.up k p h5 h2; omega
      · have : p = k := by omega
        subst this; exact h4
  refine ⟨h.wf.snoc (fun j hj => (h.lo j hj).1 i (Nat.le_refl _) hi) (hs.rng _ (mem_getB hi)), hi, h.hk, fun n => ?_, fun j hj => ?_, by have := h.len; simp; omega, ?_, fun j hj => ?_⟩
  · rw [memB_app, h.mem, take_nextB hi, memB_app]
    cases memB (s.take i) n <;> cases memB (t.take k) n <;> simp
  · have hj' : j < out.length + 1 := by simpa using hj
    rw [snoc_get _ _ hj']
    split
    · exact ⟨fun p h1 h2 => (h.lo j (by assumption)).1 p (by omega) h2, (h.lo j (by assumption)).2⟩
    · exact ⟨fun p h1 h2 => hs.up i p (by omega) h2, hlt⟩
  · rw [h.more_, take_nextB hi]
    congr 1
    rw [decide_eq_decide, app_one_eq]
    simp
  · rcases Nat.lt_or_ge j i with h1 | h1
    · exact h.st j h1
    · have : j = i := by omega
      subst this; exact hlt
theorem JInv.right (hs : WFB s) (ht : WFB t) (h : JInv s t i k out more) (hk : k < t.length) (hi : i = s.length ∨ i < s.length ∧ t[k]!.a < s[i]!.a) : JInv s t i (k + 1) (out ++ [t[k]!]) true := by
  have hlt : ∀ p, i ≤ p → p < s.length → t[k]!.a < s[p]!.a := fun p h1 h2 => by
    rcases hi with e | ⟨h3, h4⟩
    · omega
    · rcases Nat.lt_or_ge i p with h5 | h5
      · have := hs.up i p h5 h2; omega
      · have : p = i := by omega
        subst this; exact h4
  refine ⟨h.wf.snoc (fun j hj => (h.lo j hj).2 k (Nat.le_refl _) hk) (ht.rng _ (mem_getB hk)), h.hi, hk, fun n => ?_, fun j hj => ?_, by have := h.len; simp; omega, ?_, fun j hj p h1 h2 => h.st j hj p (by omega) h2⟩
  · rw [memB_app, h.mem, take_nextB hk, memB_app]
    cases memB (s.take i) n <;> cases memB (t.take k) n <;> simp
  · have hj' : j < out.length + 1 := by simpa using hj
    rw [snoc_get _ _ hj']
    split
    · exact ⟨(h.lo j (by assumption)).1, fun p h1 h2 => (h.lo j (by assumption)).2 p (by omega) h2⟩
    · exact ⟨hlt, fun p h1 h2 => ht.up k p (by omega) h2⟩
  · have hne : out ++ [t[k]!] ≠ s.take i := by
      intro e
      have hm : t[k]! ∈ s.take i := by rw [← e]; simp
      obtain ⟨j, hj, ej⟩ := List.getElem_of_mem hm
      have hj' : j < i := by simp at hj; omega
      have := h.st j hj' k (Nat.le_refl _) hk
      rw [List.getElem_take] at ej
      rw [getElem!_pos s j (by have := h.hi; omega), ej] at this
      omega
    rw [decide_eq_false hne]; rfl
theorem JInv.both (hs : WFB s) (ht : WFB t) (h : JInv s t i k out more) (hi : i < s.length) (hk : k < t.length) (e : s[i]!.a = t[k]!.a) :
    JInv s t (i + 1) (k + 1) (out ++ [⟨s[i]!.a, s[i]!.w ||| t[k]!.w⟩]) (more || decide (s[i]!.w ||| t[k]!.w ≠ s[i]!.w)) := by
  have hr := hs.rng _ (mem_getB hi)
  have hr2 := ht.rng _ (mem_getB hk)
  have h1 : s[i]!.w ||| t[k]!.w < 2 ^ 64 := Nat.or_lt_two_pow hr.2.2.2 hr2.2.2.2
  have h2 : s[i]!.w ≤ s[i]!.w ||| t[k]!.w := Nat.left_le_or
  refine ⟨h.wf.snoc (fun j hj => (h.lo j hj).1 i (Nat.le_refl _) hi) ⟨hr.1, hr.2.1, by show 0 < s[i]!.w ||| _; omega, h1⟩, hi, hk, fun n => ?_, fun j hj => ?_, by have := h.len; simp; omega, ?_, fun j hj p hp1 hp2 => ?_⟩
  · rw [memB_app, h.mem, take_nextB hi, take_nextB hk, memB_app, memB_app, memB_one, memB_one, memB_one]
    show (_ || (decide (s[i]!.a = _) && (s[i]!.w ||| t[k]!.w).testBit _)) = _
    rw [← e, Nat.testBit_or]
    cases memB (s.take i) n <;> cases memB (t.take k) n <;> cases decide (s[i]!.a = ((n / 64 : Nat) : Int)) <;> simp
  · have hj' : j < out.length + 1 := by simpa using hj
    rw [snoc_get _ _ hj']
    split
    · exact ⟨fun p h1 h2 => (h.lo j (by assumption)).1 p (by omega) h2, fun p h1 h2 => (h.lo j (by assumption)).2 p (by omega) h2⟩
    · exact ⟨fun p h1 h2 => hs.up i p (by omega) h2, fun p h1 h2 => by show s[i]!.a < _; rw [e]; exact ht.up k p (by omega) h2⟩
  · rw [h.more_, take_nextB hi]
    have : decide (out ++ [(⟨s[i]!.a, s[i]!.w ||| t[k]!.w⟩ : Blk)] = s.take i ++ [s[i]!]) = (decide (out = s.take i) && decide (s[i]!.w ||| t[k]!.w = s[i]!.w)) := by
      rw [← Bool.decide_and, decide_eq_decide, app_one_eq]
      refine and_congr Iff.rfl ⟨fun q => congrArg Blk.w q, fun q => ?_⟩
      rw [q]
    rw [this]
    cases decide (out = s.take i) <;> simp
  · rcases Nat.lt_or_ge j i with h1 | h1
    · exact h.st j h1 p (by omega) hp2
    · have : j = i := by omega
      subst this
      rw [e]
      exact ht.up k p (by omega) hp2
theorem JInv.done (h : JInv s t s.length t.length out more) : WFB out ∧ (∀ n, memB out n = (memB s n || memB t n)) ∧ more = !decide (out = s) ∧ out.length ≤ s.length + t.length := by
  refine ⟨h.wf, fun n => ?_, ?_, h.len⟩
  · rw [h.mem, List.take_length, List.take_length]
  · rw [h.more_, List.take_length]
end
/-! ### What another one hasn't -/
structure LInv (s t : List Blk) (i : Nat) (out : List Blk) : Prop where
  wf : WFB out
  mem : ∀ n, memB out n = (memB (s.take i) n && !memB t n)
  lo : ∀ j, j < out.length → ∀ p, i ≤ p → p < s.length → out[j]!.a < s[p]!.a
  len : out.length ≤ i
theorem LInv.start (s t : List Blk) : LInv s t 0 [] := ⟨WFB.nil, fun n => by simp [memB_nil], fun j h => by simp at h, by simp⟩
/-- v: what is left of the block. -/
theorem LInv.step {s t out : List Blk} {i v : Nat} (hs : WFB s) (h : LInv s t i out) (hi : i < s.length) (hv : v < 18446744073709551616)
    (hb : ∀ n, s[i]!.a = ((n / 64 : Nat) : Int) → v.testBit (n % 64) = (s[i]!.w.testBit (n % 64) && !memB t n)) : LInv s t (i + 1) (if v = 0 then out else out ++ [⟨s[i]!.a, v⟩]) := by
  have hr := hs.rng _ (mem_getB hi)
  have key : ∀ n, memB [(⟨s[i]!.a, v⟩ : Blk)] n = (memB [s[i]!] n && !memB t n) := fun n => by
    rw [memB_one, memB_one]
    by_cases e : s[i]!.a = ((n / 64 : Nat) : Int)
    · rw [hb n e]
      cases s[i]!.w.testBit (n % 64) <;> simp [e]
    · rw [decide_eq_false e]; rfl
  have hm : ∀ n, (memB out n || memB [(⟨s[i]!.a, v⟩ : Blk)] n) = (memB (s.take (i + 1)) n && !memB t n) := fun n => by
    rw [h.mem, key, take_nextB hi, memB_app]
    cases memB (s.take i) n <;> cases memB t n <;> simp
  by_cases h0 : v = 0
  · rw [if_pos h0]
    subst h0
    refine ⟨h.wf, fun n => ?_, fun j hj p h1 h2 => h.lo j hj p (by omega) h2, by have := h.len; omega⟩
    rw [← hm, memB_one]
    simp
  · rw [if_neg h0]
    refine ⟨h.wf.snoc (fun j hj => h.lo j hj i (Nat.le_refl _) hi) ⟨hr.1, hr.2.1, by show 0 < v; omega, hv⟩, fun n => ?_, fun j hj p h1 h2 => ?_, by have := h.len; simp; omega⟩
    · rw [memB_app]; exact hm n
    · have hj' : j < out.length + 1 := by simpa using hj
      rw [snoc_get _ _ hj']
      split
      · exact h.lo j (by assumption) p (by omega) h2
      · exact hs.up i p (by omega) h2
theorem LInv.done {s t out : List Blk} (h : LInv s t s.length out) : WFB out ∧ (∀ n, memB out n = (memB s n && !memB t n)) ∧ out.length ≤ s.length := by
  refine ⟨h.wf, fun n => ?_, h.len⟩
  rw [h.mem, List.take_length]
end Go.Proofs.Ytomldckplkecbaa
