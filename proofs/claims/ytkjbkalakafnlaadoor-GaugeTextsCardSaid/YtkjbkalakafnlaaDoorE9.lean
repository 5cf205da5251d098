/- Rows appended onto rows; rows of the call's own, written in place. -/
import Derived.Test.YtkjbkalakafnlaaDoorE8
namespace Go.Proofs.YtkjbkalakafnlaaDoor
open Go.RowKit
set_option linter.unusedVariables false
set_option linter.unusedSimpArgs false
theorem take_next {α : Type} [Inhabited α] {xs : List α} {i : Nat} (h : i < xs.length) : xs.take (i + 1) = xs.take i ++ [xs[i]!] := by
  rw [getElem!_pos xs i h]
  simp
/-- What is said of one cell each. -/
def OneC {α : Type} (d : Dec α) : Prop := ∀ w cs x, d w cs x → ∀ u ∈ cs, u.oneCell' = true
theorem one_I (k : IntKind) : OneC (dI k) := fun w cs x h u hu => by
  rw [h.1] at hu
  simp at hu
  subst hu
  rfl
theorem one_B : OneC dB := fun w cs x h u hu => by
  rw [show cs = [.bool x] from h] at hu
  simp at hu
  subst hu
  rfl
theorem one_Cell : OneC dCell := fun w cs x ⟨A, c, h, _⟩ u hu => by
  rw [h] at hu
  simp at hu
  rcases hu with rfl | rfl | rfl <;> rfl
theorem one_Con : OneC dCon := fun w cs x ⟨A, c, h, _⟩ u hu => by
  rw [h] at hu
  simp at hu
  rcases hu with rfl | rfl | rfl | rfl <;> rfl
theorem row_flat {α : Type} [Inhabited α] {sz : Nat} {d : Dec α} {w : World} {ad : Addr} {xs : List α} (h : RowR sz d w (some ad) xs) (hd : OneC d) :
    ∃ flat, (∀ j u, flat[j]? = some u → w.cell? (ad.add j) = some u) ∧ Elems sz d w flat xs ∧ ∀ u ∈ flat, u.oneCell' = true := by
  have key : ∀ k, k ≤ xs.length → ∃ flat, (∀ j u, flat[j]? = some u → w.cell? (ad.add j) = some u) ∧ Elems sz d w flat (xs.take k) ∧ ∀ u ∈ flat, u.oneCell' = true := by
    intro k
    induction k with
    | zero => exact fun _ => ⟨[], by simp, by simpa using Elems.nil .., by simp⟩
    | succ k ih =>
      intro hk
      obtain ⟨flat, h1, h2, h3⟩ := ih (by omega)
      obtain ⟨ad', cs, e, hl, hc, hx⟩ := h.2 k (by omega)
      cases e
      refine ⟨flat ++ cs, fun j u hu => ?_, ?_, ?_⟩
      · rcases Nat.lt_or_ge j flat.length with hj | hj
        · rw [List.getElem?_append_left hj] at hu
          exact h1 j u hu
        · rw [List.getElem?_append_right hj] at hu
          have hfl := h2.1
          rw [List.length_take, Nat.min_eq_left (by omega)] at hfl
          have := hc (j - flat.length) u hu
          rwa [show k * sz + (j - flat.length) = j by omega] at this
      · rw [take_next (by omega)]
        exact h2.push hl hx
      · intro u hu
        rcases List.mem_append.1 hu with hu | hu
        · exact h3 u hu
        · exact hd _ _ _ hx u hu
  obtain ⟨flat, h1, h2, h3⟩ := key xs.length (Nat.le_refl _)
  rw [List.take_length] at h2
  exact ⟨flat, h1, h2, h3⟩
section
variable {P : Program} {T : Nat → Option TI} {n : Nat} {Q : Post} {F : Fm} {w : World} {ops : Array Oper} {rest : List Oper} {o : Oper} {K : Fm → Prop} {C : World → Prop}
theorem run_append_none (base : Nat) (t ty e : TypeId) (i : TypeInfo) (size : Nat) (ht : P.underlying t = some (.slice e)) (hi : P.info? e = some i)
    (v : Value) (n : Nat) (xs : List Value) (hown : w.ownsRow base e size v n xs) (cc : Nat) :
    (Builtin.append_ #[t, t] ty #[v, .slice none 0 cc]).run P w = .ok v w := by
  rcases hown.2 with ⟨rfl, rfl⟩ | ⟨g, cap, cur, rfl, _, _, hnc, _⟩
  · simp [Builtin.append_, run_underlying ht, sizeOf, typeInfo, hi, Builtin.lenOf, Builtin.firstCells]
  · simp [Builtin.append_, run_underlying ht, sizeOf, typeInfo, hi, Builtin.lenOf, Builtin.firstCells, hnc, storeCells]
/-- append(v, row...): the row is any that can be read. -/
theorem apr_run (hT : TabOk P T) (e s b : Nat) {α : Type} [Inhabited α] {d : Dec α} {base len : Nat} {v : Value} {flat : List Value} {xs : List α} {B : Option Addr} {cc : Nat} {c : Call} {x y : Operand} {t : TypeId}
    (hown : w.ownsRow base e s v len flat) (hr : RowR s d w B xs) (hd1 : OneC d) (hop : o.op = .call c) (hcal : c.callee = .builtin .append) (hargs : c.args.toList = [x, y]) (htys : c.argTypes.toList = [t, t])
    (hx : ev F x = v) (hy : ev F y = .slice B xs.length cc) (h1 : appT T t e s b = true) (hs0 : Nat.blt 0 s = true)
    (hbig : (len + xs.length) * b ≤ 140737488355328) (h63 : len + xs.length ≤ 9223372036854775807) (hbase : base ≤ w.heap.size) :
    ∃ A cap w1 news, (execOp (ev F) o).run P w = .ok (.value (.slice A (len + xs.length) cap)) w1 ∧ Elems s d w news xs ∧ w1.ownsRow base e s (.slice A (len + xs.length) cap) (len + xs.length) (flat ++ news) ∧ w.grownBy w1 v.ownBlock ∧ ((Value.slice A (len + xs.length) cap).ownBlock = v.ownBlock ∨ (Value.slice A (len + xs.length) cap).ownBlock = some w.heap.size) := by
  obtain ⟨hu, j, z, hj, hz, hs, hby, hzs⟩ := appT_ok hT h1
  obtain ⟨callee, ⟨args⟩, ⟨tys⟩⟩ := c
  simp only at hcal hargs htys
  subst hcal hargs htys
  cases B with
  | none =>
    have hxs : xs = [] := by
      cases xs with
      | nil => rfl
      | cons a l => obtain ⟨_, _, e, _⟩ := hr.2 0 (by simp); cases e
    subst hxs
    have hform : ∃ A cap, v = .slice A len cap := by
      rcases hown.2 with ⟨rfl, h0⟩ | ⟨g', cap, cur, rfl, _⟩
      · exact ⟨none, 0, by rw [h0]⟩
      · exact ⟨_, cap, rfl⟩
    obtain ⟨A, cap, rfl⟩ := hform
    refine ⟨A, cap, w, [], ?_, Elems.nil .., by simpa using hown, grown_refl _ _, .inl rfl⟩
    have h := run_append_none (P := P) (w := w) base t o.type e j s hu hj _ len flat hown cc
    simp [execOp, hop, resolve, invoke, builtin, hx, hy, h]
  | some ad =>
    obtain ⟨news, hn1, hn2, hn3⟩ := row_flat hr hd1
    obtain ⟨v', w1, hr', h2, h3, _, h5⟩ := run_append_own_at (P := P) w base t o.type e j z s b hu hj hz hs hby hzs (nblt hs0) v len flat hown ad xs.length cc news hn2.1 hn1 hn3 h63 hbig hbase
    have hform : ∃ A cap, v' = .slice A (len + xs.length) cap := by
      rcases h2.2 with ⟨rfl, h0⟩ | ⟨g', cap, cur, rfl, _⟩
      · exact ⟨none, 0, by rw [h0]⟩
      · exact ⟨_, cap, rfl⟩
    obtain ⟨A, cap, rfl⟩ := hform
    refine ⟨A, cap, w1, news, ?_, hn2, h2, h3, h5⟩
    simp [execOp, hop, resolve, invoke, builtin, hx, hy, hr']
theorem wl_apr (hT : TabOk P T) (e s b : Nat) {α : Type} [Inhabited α] {d : Dec α} {base len : Nat} {v : Value} {flat : List Value} {xs : List α} {B : Option Addr} {cc : Nat} {c : Call} {x y : Operand} {t : TypeId}
    (hown : w.ownsRow base e s v len flat) (hr : RowR s d w B xs) (hd1 : OneC d) (hop : o.op = .call c) (hcal : c.callee = .builtin .append) (hargs : c.args.toList = [x, y]) (htys : c.argTypes.toList = [t, t])
    (hx : ev F x = v) (hy : ev F y = .slice B xs.length cc) (h1 : appT T t e s b = true) (hs0 : Nat.blt 0 s = true) (hg : o.guard = none) {dd : Nat} (hd : o.dst = some dd) (hn : Nat.blt dd n = true)
    (hbig : (len + xs.length) * b ≤ 140737488355328) (h63 : len + xs.length ≤ 9223372036854775807) (hbase : base ≤ w.heap.size)
    (k : ∀ A cap w1 news, Elems s d w news xs → w1.ownsRow base e s (.slice A (len + xs.length) cap) (len + xs.length) (flat ++ news) → w.grownBy w1 v.ownBlock → ((Value.slice A (len + xs.length) cap).ownBlock = v.ownBlock ∨ (Value.slice A (len + xs.length) cap).ownBlock = some w.heap.size) →
      wl P n ops rest Q (upd F dd (.slice A (len + xs.length) cap)) w1) : wl P n ops (o :: rest) Q F w := by
  obtain ⟨A, cap, w1, news, hr, h2, h3, h4, h5⟩ := apr_run hT e s b hown hr hd1 hop hcal hargs htys hx hy h1 hs0 hbig h63 hbase
  exact wl_val hg hd hn hr (k A cap w1 news h2 h3 h4 h5)
theorem wa_apr (hT : TabOk P T) (e s b : Nat) {K : Fm → World → Prop} {α : Type} [Inhabited α] {d : Dec α} {base len : Nat} {v : Value} {flat : List Value} {xs : List α} {B : Option Addr} {cc : Nat} {c : Call} {x y : Operand} {t : TypeId}
    (hown : w.ownsRow base e s v len flat) (hr : RowR s d w B xs) (hd1 : OneC d) (hop : o.op = .call c) (hcal : c.callee = .builtin .append) (hargs : c.args.toList = [x, y]) (htys : c.argTypes.toList = [t, t])
    (hx : ev F x = v) (hy : ev F y = .slice B xs.length cc) (h1 : appT T t e s b = true) (hs0 : Nat.blt 0 s = true) {dd : Nat} (hd : o.dst = some dd) (hn : Nat.blt dd n = true)
    (hbig : (len + xs.length) * b ≤ 140737488355328) (h63 : len + xs.length ≤ 9223372036854775807) (hbase : base ≤ w.heap.size)
    (k : ∀ A cap w1 news, Elems s d w news xs → w1.ownsRow base e s (.slice A (len + xs.length) cap) (len + xs.length) (flat ++ news) → w.grownBy w1 v.ownBlock → ((Value.slice A (len + xs.length) cap).ownBlock = v.ownBlock ∨ (Value.slice A (len + xs.length) cap).ownBlock = some w.heap.size) →
      K (upd F dd (.slice A (len + xs.length) cap)) w1) : wa P n o F w K := by
  obtain ⟨A, cap, w1, news, hr, h2, h3, h4, h5⟩ := apr_run hT e s b hown hr hd1 hop hcal hargs htys hx hy h1 hs0 hbig h63 hbase
  exact ⟨_, _, hr, by rw [hd]; exact hn, by rw [hd]; exact k A cap w1 news h2 h3 h4 h5⟩
end
/-! ### an element of a row of the call's own is written -/
theorem Elems.put {α : Type} [Inhabited α] {sz : Nat} {d : Dec α} {w : World} {flat : List Value} {xs : List α} {i k : Nat} {u : Value} {x' : α} (h : Elems sz d w flat xs) (hi : i < xs.length) (hk : k < sz)
    (hx : ∀ cs, cs.length = sz → d w cs xs[i]! → d w (cs.set k u) x') : Elems sz d w (flat.set (i * sz + k) u) (xs.set i x') := by
  refine ⟨by simpa using h.1, fun j hj => ?_⟩
  have hj' : j < xs.length := by simpa using hj
  have hjl : j * sz + sz ≤ flat.length := by rw [h.1, ← Nat.succ_mul]; exact Nat.mul_le_mul_right _ hj'
  by_cases e : j = i
  · subst e
    have e1 : ((flat.set (j * sz + k) u).drop (j * sz)).take sz = ((flat.drop (j * sz)).take sz).set k u := by
      rw [List.drop_set, if_neg (by omega), List.take_set]
      congr 1
      omega
    have e2 : (xs.set j x')[j]! = x' := by rw [getElem!_pos (xs.set j x') j hj]; simp
    rw [e1, e2]
    exact hx _ (by simp; omega) (h.2 j hj')
  · have e1 : ((flat.set (i * sz + k) u).drop (j * sz)).take sz = (flat.drop (j * sz)).take sz := by
      rw [List.drop_set]
      split
      · rfl
      · rename_i hlt
        rw [List.take_set, List.set_eq_of_length_le]
        rcases Nat.lt_or_ge i j with hl | hl
        · have : (i + 1) * sz ≤ j * sz := Nat.mul_le_mul_right _ hl
          rw [Nat.succ_mul] at this
          omega
        · have : (j + 1) * sz ≤ i * sz := Nat.mul_le_mul_right _ (by omega)
          rw [Nat.succ_mul] at this
          simp
          omega
    have e2 : (xs.set i x')[j]! = xs[j]! := by rw [getElem!_pos (xs.set i x') j hj, getElem!_pos xs j hj', List.getElem_set_ne (by omega)]
    rw [e1, e2]
    exact h.2 j hj'
theorem GRow.cur {α : Type} [Inhabited α] {sz : Nat} {d : Dec α} {e : TypeId} {base : Nat} {w : World} {A : Option Addr} {n c : Nat} {xs : List α} {bs : List Nat} (h : GRow sz d e base w (.slice A n c) xs bs) (h0 : 0 < xs.length) :
    ∃ (g : Nat) (cur : List Value), A = some ⟨g, 0, none⟩ ∧ base ≤ g ∧ w.heap[g]? = some (.cells cur.toArray e (0, 0)) ∧ xs.length * sz ≤ cur.length ∧
      ∀ w1 i k u x' bs', i < xs.length → k < sz → Put w w1 g (cur.set (i * sz + k) u) e → (∀ w' cs, (∀ b ∈ bs', w'.heap[b]? = w.heap[b]?) → cs.length = sz → d w' cs xs[i]! → d w' (cs.set k u) x') → (∀ b ∈ bs', (base ≤ b ∧ b < w.heap.size) ∧ b ≠ g) → GRow sz d e base w1 (.slice A n c) (xs.set i x') (bs ++ bs') := by
  obtain ⟨flat, h1, h2⟩ := h.own
  rcases h1.2 with ⟨he, hz⟩ | ⟨g, cap, cur, hv, hbg, hg, hnc, hcm, hcs, htake⟩
  · omega
  have hv' := hv
  injection hv' with e1 e2 e3
  subst e1 e2 e3
  have hcl : xs.length * sz ≤ cur.size := by rw [hcs]; exact Nat.mul_le_mul_right _ hnc
  refine ⟨g, cur.toList, rfl, hbg, by simpa using hg, by simpa using hcl, ?_⟩
  intro w1 i k u x' bs' hi hk hp hx hbs
  have hbne : ∀ b ∈ bs, b ≠ g := fun b hb e => h.ne b hb (by rw [e]; rfl)
  have hall : ∀ b ∈ bs ++ bs', (base ≤ b ∧ b < w.heap.size) ∧ b ≠ g := fun b hb => by
    rcases List.mem_append.1 hb with hb | hb
    · exact ⟨h.lt b hb, hbne b hb⟩
    · exact hbs b hb
  have same : ∀ b ∈ bs ++ bs', w1.heap[b]? = w.heap[b]? := fun b hb => hp.grown.block b (hall b hb).1.2 (by simpa using (hall b hb).2)
  refine ⟨⟨flat.set (i * sz + k) u, ⟨by simpa using h1.1, .inr ⟨g, c, (cur.toList.set (i * sz + k) u).toArray, by simp, hbg, hp.blk, by simpa using hnc, hcm, by simpa using hcs, ?_⟩⟩, fun w' hw' => ?_⟩, fun b hb => ⟨(hall b hb).1.1, by rw [hp.size]; exact (hall b hb).1.2⟩, fun b hb => by simpa [Value.ownBlock] using (hall b hb).2⟩
  · simp only [List.length_set]
    rw [← htake, List.take_set]
  · refine (h2 w' fun b hb => (hw' b (by simp [hb])).trans (same b (by simp [hb]))).put hi hk fun cs hl hd => hx w' cs (fun b hb => (hw' b (by simp [hb])).trans (same b (by simp [hb]))) hl hd
end Go.Proofs.YtkjbkalakafnlaaDoor
