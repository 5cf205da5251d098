/- Words: what a value's cells say of a Lean value, whatever its kind; how that stays; how arguments are opened. -/
import Derived.Test.YtkjbkalakafnlaaDoorRows
import Derived.Below
import Derived.Deep.Draws
import Derived.OwnWalk
import Derived.Laws.MakeOwn
import Derived.Laws.OwnMore
import Derived.Maps.AppendAt
import Derived.Deep.AppendLies
import Derived.Deep.OwnRows
import Derived.Tactics
import Derived.Laws.Slices
import Derived.WalkKit
import Derived.KernelRfl
import Derived.RowKit3
import Derived.Deep.LoopGhost
import Derived.Deep.QuietTactic
import Derived.BigQuiet
import Derived.WideLaws
import Derived.Deep.DeepCutAuto
import Derived.Deep.CutBlock
import Derived.Deep.RegionHeld3
import Derived.Laws.Rows
import Derived.OrdersHeld
import Derived.RowKit
import Derived.Outline
import Derived.WalkSpells
import Derived.WalkLawsBesides
import Derived.ProofKit
import Derived.OpenShut
namespace Go.Proofs.YtkjbkalakafnlaaDoor
open Go.RowKit Go.ChangeShapes Go.WideShapes Go.ChangeAt
set_option linter.unusedVariables false
set_option linter.unusedSimpArgs false

/-- A fact that the walk doesn't look into. -/
structure Kp (p : Prop) : Prop where mk :: (out : p)

theorem retB {a b : Bool} (h : a = b) : Ending.returned (.bool a) = .returned (.bool b) := by rw [h]
theorem retI {k : IntKind} {a b : Int} (h : a = b) : Ending.returned (.int k a) = .returned (.int k b) := by rw [h]

theorem bdrewN {B : Nat} {a w : World} (h : Below B a w) (n : Nat) : Below B a (w.drewN n) := ⟨h.os, h.tape, h.output, h.size, h.block⟩
theorem bup {a b c : World} (h : Below a.heap.size a b) (k : Below b.heap.size b c) : Below a.heap.size a c := h.trans (k.mono h.size)
theorem cell_up {w w1 : World} (h : Below w.heap.size w w1) {a : Addr} {v : Value} (hc : w.cell? a = some v) : w1.cell? a = some v := (h.cell (World.block_lt_of_cell? w a hc)).trans hc
theorem cell_heap {w w1 : World} (hb : ∀ k, k < w.heap.size → w1.heap[k]? = w.heap[k]?) {a : Addr} {v : Value} (h : w.cell? a = some v) : w1.cell? a = some v :=
  (World.cell?_of_block (hb a.block (World.block_lt_of_cell? w a h))).trans h
theorem add_block (a : Addr) (n : Nat) : (a.add n).block = a.block := by unfold Addr.add; split <;> rfl
theorem add_add (a : Addr) (m n : Nat) : (a.add m).add n = a.add (m + n) := by
  unfold Addr.add
  by_cases hm : m = 0
  · subst hm; simp
  · by_cases hn : n = 0
    · subst hn; simp [hm]
    · simp [hm, hn]; omega
theorem add_field (a : Addr) (m n : Nat) (hn : 0 < n) : (⟨(a.add m).block, (a.add m).off + n, none⟩ : Addr) = a.add (m + n) := by
  unfold Addr.add
  by_cases hm : m = 0
  · subst hm; simp [show n ≠ 0 by omega]
  · simp [hm]; omega
theorem add_zero (g j : Nat) : (⟨g, 0, none⟩ : Addr).add j = ⟨g, j, none⟩ := by unfold Addr.add; split <;> simp_all

/-! ### What cells say -/
abbrev Dec (α : Type) := World → List Value → α → Prop
/-- It looks at blocks that are there alone. -/
structure Stays {α : Type} (d : Dec α) : Prop where
  go : ∀ (w w1 : World) (cs : List Value) (x : α), (∀ k, k < w.heap.size → w1.heap[k]? = w.heap[k]?) → d w cs x → d w1 cs x
def dI (k : IntKind) : Dec Int := fun _ cs x => cs = [.int k x] ∧ k.min ≤ x ∧ x ≤ k.max
def dB : Dec Bool := fun _ cs x => cs = [.bool x]
/-- A row. -/
def RowR {α : Type} [Inhabited α] (sz : Nat) (d : Dec α) (w : World) (A : Option Addr) (xs : List α) : Prop :=
  xs.length ≤ 9223372036854775807 ∧ ∀ i, i < xs.length → ∃ ad cs, A = some ad ∧ cs.length = sz ∧ (∀ j u, cs[j]? = some u → w.cell? (ad.add (i * sz + j)) = some u) ∧ d w cs xs[i]!
def dS {α : Type} [Inhabited α] (sz : Nat) (d : Dec α) : Dec (List α) := fun w cs xs => ∃ A c, cs = [.slice A xs.length c] ∧ xs.length ≤ c ∧ RowR sz d w A xs
theorem stays_I (k : IntKind) : Stays (dI k) := ⟨fun _ _ _ _ _ h => h⟩
theorem stays_B : Stays dB := ⟨fun _ _ _ _ _ h => h⟩
theorem RowR.stays {α : Type} [Inhabited α] {sz : Nat} {d : Dec α} (hd : Stays d) {w w1 : World} {A : Option Addr} {xs : List α} (hb : ∀ k, k < w.heap.size → w1.heap[k]? = w.heap[k]?) (h : RowR sz d w A xs) : RowR sz d w1 A xs :=
  ⟨h.1, fun i hi => let ⟨ad, cs, e, l, hc, hk⟩ := h.2 i hi; ⟨ad, cs, e, l, fun j u hu => cell_heap hb (hc j u hu), hd.go _ _ _ _ hb hk⟩⟩
theorem stays_S {α : Type} [Inhabited α] {sz : Nat} {d : Dec α} (hd : Stays d) : Stays (dS sz d) := ⟨fun _ _ _ _ hb ⟨A, c, e, l, h⟩ => ⟨A, c, e, l, h.stays hd hb⟩⟩
theorem RowR.up {α : Type} [Inhabited α] {sz : Nat} {d : Dec α} (hd : Stays d) {w w1 : World} {A : Option Addr} {xs : List α} (h : RowR sz d w A xs) (hb : Below w.heap.size w w1) : RowR sz d w1 A xs := h.stays hd hb.block
theorem RowR.nil {α : Type} [Inhabited α] (sz : Nat) (d : Dec α) (w : World) (A : Option Addr) : RowR sz d w A [] := ⟨by simp, fun i hi => by simp at hi⟩

/-! ### Footprints: P holds in w and in every world that has w's blocks of ok. -/
def Ft (ok : Nat → Prop) (w : World) (P : World → Prop) : Prop := ∀ w', (∀ b, ok b → b < w.heap.size → w'.heap[b]? = w.heap[b]?) → P w'
theorem Ft.now {ok : Nat → Prop} {w : World} {P : World → Prop} (h : Ft ok w P) : P w := h w fun _ _ _ => rfl
theorem Ft.mono {ok ok' : Nat → Prop} {w : World} {P : World → Prop} (h : Ft ok w P) (hk : ∀ b, b < w.heap.size → ok b → ok' b) : Ft ok' w P := fun w' hw => h w' fun b hb hl => hw b (hk b hl hb) hl
theorem heap_lt {w w1 : World} {k : Nat} (h : w1.heap[k]? = w.heap[k]?) (hlt : k < w.heap.size) : k < w1.heap.size := by
  rw [Array.getElem?_eq_getElem hlt] at h
  exact (Array.getElem?_eq_some_iff.1 h).1
theorem Ft.step {ok : Nat → Prop} {w w1 : World} {P : World → Prop} (h : Ft ok w P) (hm : ∀ b, ok b → b < w.heap.size → w1.heap[b]? = w.heap[b]?) : Ft (fun b => ok b ∧ b < w.heap.size) w1 P :=
  fun w' hw => h w' fun b hb hl => (hw b ⟨hb, hl⟩ (heap_lt (hm b hb hl) hl)).trans (hm b hb hl)
theorem Ft.imp {ok : Nat → Prop} {w : World} {P Q : World → Prop} (h : Ft ok w P) (hi : ∀ w', P w' → Q w') : Ft ok w Q := fun w' hw => hi w' (h w' hw)
theorem Ft.up {ok : Nat → Prop} {w w1 : World} {P : World → Prop} (h : Ft ok w P) (hb : Below w.heap.size w w1) : Ft (fun b => ok b ∧ b < w.heap.size) w1 P := h.step fun b _ hl => hb.block b hl
theorem Ft.grown {ok : Nat → Prop} {w w1 : World} {P : World → Prop} {row : Option Nat} (h : Ft ok w P) (hg : w.grownBy w1 row) (hne : ∀ b, ok b → b < w.heap.size → some b ≠ row) : Ft (fun b => ok b ∧ b < w.heap.size) w1 P := h.step fun b hb hl => hg.block b hl (hne b hb hl)
theorem Ft.of {α : Type} {d : Dec α} (hd : Stays d) {w : World} {cs : List Value} {x : α} (h : d w cs x) : Ft (fun _ => True) w (fun w => d w cs x) := fun _ hw => hd.go _ _ _ _ (fun k hk => hw k trivial hk) h

/-! ### Rows that the call itself makes -/
/-- The elements of a row, out of its cells. -/
def Elems {α : Type} [Inhabited α] (sz : Nat) (d : Dec α) (w : World) (flat : List Value) (xs : List α) : Prop :=
  flat.length = xs.length * sz ∧ ∀ i, i < xs.length → d w ((flat.drop (i * sz)).take sz) xs[i]!
theorem Elems.nil {α : Type} [Inhabited α] (sz : Nat) (d : Dec α) (w : World) : Elems sz d w [] [] := ⟨by simp, fun i hi => by simp at hi⟩
theorem Elems.push {α : Type} [Inhabited α] {sz : Nat} {d : Dec α} {w : World} {flat cs : List Value} {xs : List α} {x : α} (h : Elems sz d w flat xs) (hc : cs.length = sz) (hx : d w cs x) : Elems sz d w (flat ++ cs) (xs ++ [x]) := by
  refine ⟨by simp [h.1, hc, Nat.add_mul], fun i hi => ?_⟩
  simp only [List.length_append, List.length_singleton] at hi
  rcases Nat.lt_or_ge i xs.length with hl | hl
  · have h1 : i * sz + sz ≤ flat.length := by rw [h.1, ← Nat.succ_mul]; exact Nat.mul_le_mul_right _ hl
    have e1 : ((flat ++ cs).drop (i * sz)).take sz = (flat.drop (i * sz)).take sz := by
      rw [List.drop_append_of_le_length (by omega), List.take_append_of_le_length (by simp; omega)]
    have e2 : (xs ++ [x])[i]! = xs[i]! := by
      simp [List.getElem!_eq_getElem?_getD, List.getElem?_append_left hl]
    rw [e1, e2]
    exact h.2 i hl
  · have : i = xs.length := by omega
    subst this
    have e1 : ((flat ++ cs).drop (xs.length * sz)).take sz = cs := by
      rw [← h.1, List.drop_left, ← hc, List.take_length]
    have e2 : (xs ++ [x])[xs.length]! = x := by simp
    rw [e1, e2]
    exact hx
theorem Elems.stays {α : Type} [Inhabited α] {sz : Nat} {d : Dec α} (hd : Stays d) {w w1 : World} {flat : List Value} {xs : List α} (hb : ∀ k, k < w.heap.size → w1.heap[k]? = w.heap[k]?) (h : Elems sz d w flat xs) : Elems sz d w1 flat xs := ⟨h.1, fun i hi => hd.go _ _ _ _ hb (h.2 i hi)⟩
theorem row_of_own {α : Type} [Inhabited α] {sz : Nat} {d : Dec α} {w : World} {base : Nat} {e : TypeId} {v : Value} {n : Nat} {flat : List Value} {xs : List α} (h : w.ownsRow base e sz v n flat) (hn : n = xs.length) (he : Elems sz d w flat xs) :
    ∃ A c, v = .slice A xs.length c ∧ xs.length ≤ c ∧ RowR sz d w A xs := by
  subst hn
  rcases Nat.eq_zero_or_pos xs.length with h0 | h0
  · have hx : xs = [] := List.eq_nil_of_length_eq_zero h0
    subst hx
    rcases h.2 with ⟨rfl, _⟩ | ⟨g, cap, cur, rfl, _⟩
    · exact ⟨none, 0, rfl, Nat.le_refl _, RowR.nil ..⟩
    · exact ⟨_, cap, rfl, by simp, RowR.nil ..⟩
  · obtain ⟨g, cap, rfl, hg, hc⟩ := h.form h0
    have hm : xs.length ≤ cap ∧ cap ≤ maxLen := by
      rcases h.2 with ⟨e, _⟩ | ⟨g', cap', cur, e, _, _, h1, h2, _⟩
      · cases e
      · injection e with _ _ e3
        subst e3
        exact ⟨h1, h2⟩
    refine ⟨_, cap, rfl, hm.1, by have := hm.2; simp only [maxLen] at this; omega, fun i hi => ⟨_, (flat.drop (i * sz)).take sz, rfl, ?_, ?_, he.2 i hi⟩⟩
    · have h1 : i * sz + sz ≤ flat.length := by rw [he.1, ← Nat.succ_mul]; exact Nat.mul_le_mul_right _ hi
      simp; omega
    · intro j u hu
      refine h.cells (g := g) rfl (i * sz + j) u ?_
      rw [List.getElem?_take] at hu
      split at hu
      · rw [List.getElem?_drop] at hu; exact hu
      · cases hu

/-! ### Opening what came in -/
section
variable {H : Type} {enc : TypeId × Value → H} {P : Program} {w : World} {base : Nat} {spare : Nat → Bool} {held : Bool}
def Opens {α : Type} (enc : TypeId × Value → H) (P : Program) (w : World) (base : Nat) (spare : Nat → Bool) (held : Bool) (t : TypeId) (d : Dec α) : Prop :=
  ∀ {fuel : Nat} {cs : List Value} {x : DataW H × List MemPlace}, DataW.trod enc P w base spare held fuel t cs = some x → ∃ a, d w cs a
theorem wf_range {k : IntKind} {n : Int} (h : (Lit.int k n).wf = true) : k.min ≤ n ∧ n ≤ k.max := by
  simp only [Lit.wf] at h
  simpa using h
theorem opens_I {t : TypeId} {k : IntKind} (ht : P.underlying t = some (.int k)) : Opens enc P w base spare held t (dI k) := fun h => by
  obtain ⟨n, rfl, rfl, hw⟩ := DataW.trod_int ht h
  exact ⟨n, rfl, wf_range hw⟩
theorem opens_B {t : TypeId} (ht : P.underlying t = some .bool) : Opens enc P w base spare held t dB := fun h => by
  obtain ⟨b, rfl, rfl⟩ := DataW.trod_bool ht h
  exact ⟨b, rfl⟩
theorem opens_S {α : Type} [Inhabited α] {t e : TypeId} {sz : Nat} {d : Dec α} (ht : P.underlying t = some (.slice e)) (hs : P.cellsOf e = sz) (hd : Opens enc P w base spare held e d) : Opens enc P w base spare held t (dS sz d) := fun {fuel cs x} h => by
  rcases DataW.trod_slice ht h with ⟨rfl, rfl⟩ | ⟨a, len, cap, elems, rest, n, rfl, rfl, rfl, hb, hl, hm, hlen, hel, hsp, hns⟩
  · exact ⟨[], none, 0, rfl, Nat.le_refl _, RowR.nil ..⟩
  · subst hs
    have key : ∀ i, i < len → ∃ cs x, cs.length = P.cellsOf e ∧ (∀ j u, cs[j]? = some u → w.cell? (a.add (i * P.cellsOf e + j)) = some u) ∧ d w cs x := fun i hi => by
      have h1 := hel i hi
      rw [List.getElem?_eq_getElem (by omega)] at h1
      obtain ⟨cs', hc, ht'⟩ := Option.bind_eq_some_iff.1 h1
      obtain ⟨_, hcl, hat⟩ := World.cells?_some hc
      obtain ⟨x, hx⟩ := hd ht'
      refine ⟨cs', x, hcl, fun j u hu => ?_, hx⟩
      rw [← add_add, hat j (by have := (List.getElem?_eq_some_iff.1 hu).1; omega), hu]
    have hpick : ∃ f : Nat → α, ∀ i, i < len → ∃ cs, cs.length = P.cellsOf e ∧ (∀ j u, cs[j]? = some u → w.cell? (a.add (i * P.cellsOf e + j)) = some u) ∧ d w cs (f i) := by
      classical
      refine ⟨fun i => if hi : i < len then (key i hi).choose_spec.choose else default, fun i hi => ⟨(key i hi).choose, ?_⟩⟩
      simp only [dif_pos hi]
      exact (key i hi).choose_spec.choose_spec
    obtain ⟨f, hf⟩ := hpick
    refine ⟨(List.range len).map f, some a, cap, by simp, by simpa using hl, by simp; simp only [maxLen] at hm; omega, fun i hi => ?_⟩
    simp only [List.length_map, List.length_range] at hi
    obtain ⟨cs, h1, h2, h3⟩ := hf i hi
    refine ⟨a, cs, rfl, h1, h2, ?_⟩
    have : ((List.range len).map f)[i]! = f i := by simp [List.getElem!_eq_getElem?_getD, hi]
    rw [this]
    exact h3
/-- A struct: its fields lie one behind the other. -/
theorem fields_of {t : TypeId} {fs : Array Field} {fuel : Nat} {cs : List Value} {x : DataW H × List MemPlace} (ht : P.underlying t = some (.struct fs)) (h : DataW.trod enc P w base spare held fuel t cs = some x) :
    cs.length = P.cellsOf t ∧ ∃ n, ∀ (i : Nat) (f : Field), fs[i]? = some f → ∃ y, DataW.trod enc P w base spare held n f.type ((cs.drop f.offset).take (P.cellsOf f.type)) = some y := by
  obtain ⟨xs, n, _, _, hc, hl, hf⟩ := DataW.trod_struct ht h
  refine ⟨hc, n, fun i f hi => ?_⟩
  have hlt : i < xs.length := by rw [hl]; exact (Array.getElem?_eq_some_iff.1 hi).1
  exact ⟨xs[i], by rw [hf i f hi, List.getElem?_eq_getElem hlt]⟩
theorem trod_of_Trod {t : TypeId} {v : Value} {d : DataW H} {ps : List MemPlace} {α : Type} {D : Dec α} (h : DataW.Trod enc P w base spare held t v d ps) (ho : Opens enc P w base spare held t D) : ∃ a, D w v.cells.toList a := by
  obtain ⟨fuel, hf⟩ := h
  exact ho hf
end
end Go.Proofs.YtkjbkalakafnlaaDoor
