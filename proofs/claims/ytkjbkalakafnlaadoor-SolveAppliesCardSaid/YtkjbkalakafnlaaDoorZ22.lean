/- Several texts of one claim in one file: R0 RZ TG. -/
import Derived.Test.YtkjbkalakafnlaaDoorZ1
import Derived.Maps.OwnSet
import Derived.Test.YtkjbkalakafnlaaDoorRows
import Derived.Test.YtkjbkalakafnlaaDoorZ10
import Derived.ProofKit
import Derived.LaidMore
/- The last steps of a law's row, once for all laws: arguments opened, what is read again. -/
namespace Go.Proofs.YtkjbkalakafnlaaDoor
open Go.ChangeShapes Go.WideShapes Go.ChangeAt Go.RowKit
set_option linter.unusedVariables false
set_option linter.unusedSimpArgs false
set_option maxRecDepth 100000
section
variable {H : Type} {enc : TypeId × Value → H} {W : World} {base : Nat}
theorem open_D {α : Type} {D : Dec α} {t : TypeId} {v : Value} {d : DataW H} {p : List MemPlace} (h : DataW.Trod enc Tryd.prog W 0 (fun _ => true) true t v d p) (ho : Opens enc Tryd.prog W 0 (fun _ => true) true t D) : ∃ a, D W v.cells.toList a := trod_of_Trod h ho
theorem open_Sys {v : Value} {d : DataW H} {p : List MemPlace} (hv : Value.okWide Tryd.prog W .any base 54 v) (h : DataW.Trod enc Tryd.prog W 0 (fun _ => true) true 54 v d p) :
    ∃ (s : Sys) (A B : Option Addr) (c e : Nat), v = .agg #[.int .i64 s.vars, .slice A s.cells.length c, .slice B s.cons.length e] ∧ RCells W A s.cells ∧ RCons W B s.cons ∧ -9223372036854775808 ≤ s.vars ∧ s.vars ≤ 9223372036854775807 := by
  obtain ⟨cs, rfl, _⟩ := okWide_struct Tryd.underlying54 hv
  obtain ⟨s, A, c, B, e, hc, h1, h2, _, _, h3⟩ := open_D h opens_Sys
  refine ⟨s, A, B, c, e, ?_, h1, h2, h3⟩
  simp only [Value.cells] at hc
  rw [← hc]
theorem open_Draft {v : Value} {d : DataW H} {p : List MemPlace} (hv : Value.okWide Tryd.prog W .any base 50 v) (h : DataW.Trod enc Tryd.prog W 0 (fun _ => true) true 50 v d p) :
    ∃ (s : Draft) (A : Option Addr) (c : Nat), v = .agg #[.int .u8 s.vars, .int .u8 s.cells, .slice A s.acts.length c] ∧ RActs W A s.acts ∧ (0 ≤ s.vars ∧ s.vars ≤ 255) ∧ 0 ≤ s.cells ∧ s.cells ≤ 255 := by
  obtain ⟨cs, rfl, _⟩ := okWide_struct Tryd.underlying50 hv
  obtain ⟨s, A, c, hc, h1, h2⟩ := open_D h opens_Draft
  refine ⟨s, A, c, ?_, h1, h2⟩
  simp only [Value.cells] at hc
  rw [← hc]
theorem open_row {α : Type} [Inhabited α] {sz : Nat} {D : Dec α} {t e : TypeId} {v : Value} {d : DataW H} {p : List MemPlace} (ht : Tryd.prog.underlying t = some (.slice e)) (hv : Value.okWide Tryd.prog W .any base t v) (h : DataW.Trod enc Tryd.prog W 0 (fun _ => true) true t v d p) (ho : Opens enc Tryd.prog W 0 (fun _ => true) true t (dS sz D)) :
    ∃ (xs : List α) (A : Option Addr) (c : Nat), v = .slice A xs.length c ∧ xs.length ≤ c ∧ RowR sz D W A xs := by
  obtain ⟨a, n, c, rfl⟩ := okWide_slice ht hv
  obtain ⟨xs, A, c', hc, hl, hr⟩ := open_D h ho
  simp only [Value.cells, List.cons.injEq, and_true] at hc
  exact ⟨xs, A, c', hc, hl, hr⟩
end
end Go.Proofs.YtkjbkalakafnlaaDoor

/- Arguments opened with their reach: how long their rows are at most. -/
namespace Go.Proofs.YtkjbkalakafnlaaDoor
open Go.ChangeShapes Go.WideShapes Go.ChangeAt Go.RowKit
set_option linter.unusedVariables false
set_option linter.unusedSimpArgs false
set_option maxRecDepth 100000
section
variable {H : Type} {enc : TypeId × Value → H} {P : Program} {w : World} {base : Nat} {spare : Nat → Bool} {held : Bool}
def OpensZ {α : Type} (enc : TypeId × Value → H) (P : Program) (w : World) (base : Nat) (spare : Nat → Bool) (held : Bool) (t : TypeId) (d : Dec α) (Z : α → Prop) : Prop :=
  ∀ {fuel : Nat} {cs : List Value} {x : DataW H × List MemPlace}, DataW.trod enc P w base spare held fuel t cs = some x → (∀ y ∈ x.1.weights P t, y ≤ reachBytes) → ∃ a, d w cs a ∧ Z a
theorem weightsAll_mem {t : TypeId} : ∀ {l : List (DataW H)} {d : DataW H}, d ∈ l → ∀ y ∈ d.weights P t, y ∈ DataW.weightsAll P t l
  | [], d, h, y, hy => by cases h
  | c :: l, d, h, y, hy => by
    unfold DataW.weightsAll
    rcases List.mem_cons.1 h with rfl | h
    · exact List.mem_append_left _ hy
    · exact List.mem_append_right _ (weightsAll_mem h y hy)
theorem opensZ_of {α : Type} {t : TypeId} {d : Dec α} (h : Opens enc P w base spare held t d) : OpensZ enc P w base spare held t d (fun _ => True) := fun hx _ => let ⟨a, ha⟩ := h hx; ⟨a, ha, trivial⟩
theorem opensZ_S {α : Type} [Inhabited α] {t e : TypeId} {sz : Nat} {d : Dec α} {Z : α → Prop} (ht : P.underlying t = some (.slice e)) (hs : P.cellsOf e = sz) (hd : OpensZ enc P w base spare held e d Z) :
    OpensZ enc P w base spare held t (dS sz d) (fun xs => xs.length * P.bytesOf e ≤ reachBytes ∧ ∀ i, i < xs.length → Z xs[i]!) := fun {fuel cs x} h hw => by
  rcases DataW.trod_slice ht h with ⟨rfl, rfl⟩ | ⟨a, len, cap, elems, rest, n, rfl, rfl, rfl, hb, hl, hm, hlen, hel, hsp, hns⟩
  · exact ⟨[], ⟨none, 0, rfl, Nat.le_refl _, RowR.nil ..⟩, by simp, fun i hi => by simp at hi⟩
  · subst hs
    have hw' : ∀ y, y ∈ (elems.length + rest.length) * P.bytesOf e :: (DataW.weightsAll P e (elems.map (·.1)) ++ DataW.weightsAll P e (rest.map (·.1))) → y ≤ reachBytes := fun y hy => hw y (by
      simp only [DataW.weights, ht]
      simpa using hy)
    have key : ∀ i, i < len → ∃ cs x, (cs.length = P.cellsOf e ∧ (∀ j u, cs[j]? = some u → w.cell? (a.add (i * P.cellsOf e + j)) = some u) ∧ d w cs x) ∧ Z x := fun i hi => by
      have h1 := hel i hi
      rw [List.getElem?_eq_getElem (by omega)] at h1
      obtain ⟨cs', hc, ht'⟩ := Option.bind_eq_some_iff.1 h1
      obtain ⟨_, hcl, hat⟩ := World.cells?_some hc
      obtain ⟨x, hx, hz⟩ := hd ht' fun y hy => hw' y (by
        refine List.mem_cons_of_mem _ (List.mem_append_left _ (weightsAll_mem (d := (elems[i]'(by omega)).1) ?_ y hy))
        exact List.mem_map.2 ⟨_, List.getElem_mem _, rfl⟩)
      refine ⟨cs', x, ⟨hcl, fun j u hu => ?_, hx⟩, hz⟩
      rw [← add_add, hat j (by have := (List.getElem?_eq_some_iff.1 hu).1; omega), hu]
    have hpick : ∃ f : Nat → α, ∀ i, i < len → ∃ cs, (cs.length = P.cellsOf e ∧ (∀ j u, cs[j]? = some u → w.cell? (a.add (i * P.cellsOf e + j)) = some u) ∧ d w cs (f i)) ∧ Z (f i) := by
      classical
      refine ⟨fun i => if hi : i < len then (key i hi).choose_spec.choose else default, fun i hi => ⟨(key i hi).choose, ?_⟩⟩
      simp only [dif_pos hi]
      exact (key i hi).choose_spec.choose_spec
    obtain ⟨f, hf⟩ := hpick
    have hget : ∀ i, i < len → ((List.range len).map f)[i]! = f i := fun i hi => by simp [List.getElem!_eq_getElem?_getD, hi]
    refine ⟨(List.range len).map f, ⟨some a, cap, by simp, by simpa using hl, by simp; simp only [maxLen] at hm; omega, fun i hi => ?_⟩, ?_, fun i hi => ?_⟩
    · simp only [List.length_map, List.length_range] at hi
      obtain ⟨cs, ⟨h1, h2, h3⟩, _⟩ := hf i hi
      refine ⟨a, cs, rfl, h1, h2, ?_⟩
      rw [hget i hi]
      exact h3
    · have := hw' _ (List.mem_cons_self ..)
      simp only [List.length_map, List.length_range]
      refine Nat.le_trans (Nat.mul_le_mul_right _ ?_) this
      omega
    · simp only [List.length_map, List.length_range] at hi
      obtain ⟨cs, _, hz⟩ := hf i hi
      rw [hget i hi]
      exact hz
end
section
variable {H : Type} {enc : TypeId × Value → H} {W : World} {base : Nat}
theorem open_rowZ {α : Type} [Inhabited α] {sz : Nat} {D : Dec α} {Z : List α → Prop} {t e : TypeId} {v : Value} {d : DataW H} {p : List MemPlace} (ht : Tryd.prog.underlying t = some (.slice e)) (hv : Value.okWide Tryd.prog W .any base t v) (h : DataW.Trod enc Tryd.prog W 0 (fun _ => true) true t v d p) (ho : OpensZ enc Tryd.prog W 0 (fun _ => true) true t (dS sz D) Z) (hw : ∀ y ∈ d.weights Tryd.prog t, y ≤ reachBytes) :
    ∃ (xs : List α) (A : Option Addr) (c : Nat), v = .slice A xs.length c ∧ xs.length ≤ c ∧ RowR sz D W A xs ∧ Z xs := by
  obtain ⟨a, n, c, rfl⟩ := okWide_slice ht hv
  obtain ⟨fuel, hf⟩ := h
  obtain ⟨xs, ⟨A, c', hc, hl, hr⟩, hz⟩ := ho hf hw
  simp only [Value.cells, List.cons.injEq, and_true] at hc
  exact ⟨xs, A, c', hc, hl, hr, hz⟩
theorem weights_at {P : Program} {ts : List TypeId} {ds : List (DataW H)} (hsz : (DataW.weightsEach P ts ds).all (· ≤ reachBytes) = true) (j : Nat) {t : TypeId} {d : DataW H} (ht : ts[j]? = some t) (hd : ds[j]? = some d) : ∀ y ∈ d.weights P t, y ≤ reachBytes := fun y hy => by
  have := List.all_eq_true.1 hsz _ (DataW.weights_mem_each ht hd y hy)
  simpa using this
theorem opensZ_RowsI : OpensZ enc Tryd.prog W 0 (fun _ => true) true 56 (dS 1 dInts) fun ps => ∀ i, i < ps.length → ps[i]!.length ≤ 17592186044416 := fun h hw => by
  obtain ⟨ps, h1, _, h3⟩ := opensZ_S (sz := 1) Tryd.underlying56 (by kernel_rfl) (opensZ_S (sz := 1) Tryd.underlying46 (by kernel_rfl) (opensZ_of (opens_I Tryd.underlying3))) h hw
  refine ⟨ps, h1, fun i hi => ?_⟩
  have h4 := (h3 i hi).1
  have e : Tryd.prog.bytesOf 3 = 8 := by kernel_rfl
  rw [e] at h4
  simp only [reachBytes] at h4
  omega
end
end Go.Proofs.YtkjbkalakafnlaaDoor

/- What the listed table gives: the cells of math/bits.deBruijn64tab. -/
namespace Go.Proofs.YtkjbkalakafnlaaDoor
open Go.ChangeShapes Go.WideShapes Go.ChangeAt Go.RowKit
set_option linter.unusedVariables false
set_option maxRecDepth 100000
abbrev laidTab {H : Type} : List (String × DataW H) := [("math/bits.deBruijn64tab", Rows.laid_math_bits_deBruijn64tab)]
theorem tabList {H : Type} : (Rows.laid_math_bits_deBruijn64tab : DataW H) = .agg (Lib.deBruijn64tab.map fun n => .lit (.int .u8 (n : Nat))) := rfl
theorem tab_of_laid {W : World} (h : laidMetH Tryd.prog laidTab W) : Tab W := fun r hr => by
  rw [MakeChecks.laidMetH_plain _ _ _ (by kernel_rfl)] at h
  obtain ⟨ps, ⟨g, t, cs, fuel, p, q, hg, ht, hv, hd, _, _⟩, _, _⟩ := h
  obtain rfl := Option.some.inj ((show Tryd.prog.globalNamed "math/bits.deBruijn64tab" = some 1 by kernel_rfl).symm.trans hg)
  obtain rfl := Option.some.inj ((show (Tryd.prog.globals[1]?).map (·.type) = some 124 by kernel_rfl).symm.trans ht)
  obtain ⟨xs, m, _, ex, _, hl, hel⟩ := DataW.trod_array Tryd.underlying124 hd
  have c5 : Tryd.prog.cellsOf 5 = 1 := by kernel_rfl
  have hE := hel r hr
  rw [c5, Nat.mul_one, List.getElem?_eq_getElem (by omega)] at hE
  obtain ⟨z, e1, e2, _⟩ := DataW.trod_int Tryd.underlying5 hE
  have hlen : Lib.deBruijn64tab.length = 64 := by decide
  have e3 : (xs.map (·.1)) = Lib.deBruijn64tab.map fun n => .lit (.int .u8 (n : Nat)) := (DataW.agg.inj (tabList.symm.trans (Prod.mk.inj ex).1)).symm
  have e4 : (xs.map (·.1))[r]? = (Lib.deBruijn64tab.map fun n => (DataW.lit (.int .u8 (n : Nat)) : DataW Unit))[r]? := by rw [e3]
  rw [List.getElem?_map, List.getElem?_map, List.getElem?_eq_getElem (by omega : r < xs.length), List.getElem?_eq_getElem (by omega : r < Lib.deBruijn64tab.length), e2] at e4
  have hz : z = (Lib.deBruijn64tab.getD r 0 : Nat) := by
    simp only [Option.map_some, Option.some.injEq, DataW.lit.injEq, Lit.int.injEq, true_and] at e4
    rw [e4, List.getD, List.getElem?_eq_getElem (by omega : r < Lib.deBruijn64tab.length)]; rfl
  rw [World.var?_cell hg hv r, ← hz]
  have : cs.toList[r]? = some (.int .u8 z) := by
    have h0 : ((cs.toList.drop r).take 1)[0]? = some (.int .u8 z) := by rw [e1]; rfl
    simpa using h0
  simpa using this
end Go.Proofs.YtkjbkalakafnlaaDoor
